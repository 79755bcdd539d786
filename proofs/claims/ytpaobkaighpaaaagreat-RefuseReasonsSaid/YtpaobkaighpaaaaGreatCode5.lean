/- Lemmas for RefuseReasonsSaid, which YtpaobkaighpaaaaGreatFinR7 proves. -/
import Derived.Test.YtpaobkaighpaaaaGreatCode2
open List renaming replicate → zA2
open Nat renaming zero_add → zA1
open Go.Proofs.Tryz renaming prog → zA0
namespace Go.Lift
open IntKind renaming wrap → wI
set_option maxRecDepth 10000
open Go.RowKit
open Go.Proofs
theorem Io (N : Nat) (p0 : Aa) (p1 : Ab) (r : Int) (h : E6 N p0 p1 = some r) : Av zA0 65 [.e (.agg (Ag p0)), .e (.agg (AB p1))] [] (iD r) := by
 unfold E6 at h
 refine cw (n := 135) (rs := [.tmp 4]) Tryz.func65 fun w0 S0 => ?_
 refine wq rfl (qb rfl (qb rfl (qa rfl (Ac (wp rfl (qL C0 Cx rfl ?_))))))
 refine BY h fun v1 a1 h => Ay [] (FF N p0 v1 a1) XB rfl (qa rfl (Ac (wq rfl (qm rfl (BZ rfl (Ac ?_))))))
 refine Bd h (fun h => ?_) fun h => ?_
 ·refine wq rfl (qm rfl (qe rfl ?_))
  obtain rfl := sj h
  refine Af (sm [] [(4, iD v1)] [] rfl rfl) (Au ?_)
  exact ⟨⟨[_], tm, rfl⟩, tv⟩
 ·refine Al (AN ?_)
  refine AR h (fun v3 => mk [(2, oD (.ptr 2 0)), (3, oD (.ptr 3 0)), (41, bD v3)] [(2, .box (Ag p0)), (3, .box (AB p1))]) (fun j3 h => ?_) (fun v3 h => ?_)
  ·refine Ai Az rfl (qf CE rfl (ql A1 rfl (AJ Ax rfl (qf Bv rfl (ql A1 rfl (AJ Ax rfl (BZ rfl (qm rfl ?_))))))))
   refine Ec 24 h rfl (fun h => ?_) fun h => ?_
   ·refine qw 7 rfl (qp rfl (qw 8 rfl (qp rfl (Ac ?_))))
    exact sn [] h
   ·refine qf Br rfl (ql A1 rfl (AJ Ax rfl (qf Bv rfl (ql A1 rfl (AJ Ax rfl (BZ rfl (qp rfl (qm rfl ?_))))))))
    refine Ec 33 h rfl (fun h => ?_) fun h => ?_
    ·refine qw 7 rfl (qp rfl (Ac ?_))
     exact sn [] h
    ·refine qf CI rfl (ql Hg rfl (AJ Dj rfl (qf BU rfl (ql Gi rfl (AJ Dc rfl (BZ rfl (qp rfl (Ac ?_))))))))
     exact sn [] h
  ·refine Bd h (fun h => ?_) fun h => ?_
   ·refine wq rfl (qe rfl ?_)
    obtain rfl := sj h
    refine Af (sm [] [(4, iD 6)] [] rfl rfl) (Au ?_)
    exact ⟨⟨[_], tm, rfl⟩, tv⟩
   ·refine Al (wp rfl (qf Bv rfl (ql A1 rfl (AJ Ax rfl (qm rfl (Ac ?_))))))
    refine AH (L := Et N p0 p1) h (fun v7 => mk [(2, oD (.ptr 2 0)), (3, oD (.ptr 3 0)), (43, pD (.sl (p0.fb.map Ap))), (44, iD ((p0.fb.length : Int))), (45, iD v7)] [(2, .box (Ag p0)), (3, .box (AB p1))]) (fun v8 => mk [(2, oD (.ptr 2 0)), (3, oD (.ptr 3 0))] [(2, .box (Ag p0)), (3, .box (AB p1))]) (fun _ _ => rfl) (sm [] _ _ rfl rfl) (fun j7 n7 v7 h => ?_) (fun v8 s h hs => ?_)
    ·unfold Et at h
     refine wq rfl (AT rfl (Ac (AN ?_)))
     refine Bd h (fun h => ?_) fun h => ?_
     ·refine Al (AN (AL (wq rfl (qm rfl ?_))))
      refine BT h fun v10 a10 b10 h => qi Ax Da a10 (Ae b10) rfl (qk BW rfl (qa rfl (qa rfl (Ac (AN ?_)))))
      refine AR h (fun v11 => mk [(2, oD (.ptr 2 0)), (3, oD (.ptr 3 0)), (6, iD v7), (43, pD (.sl (p0.fb.map Ap))), (44, iD ((p0.fb.length : Int))), (45, iD v7), (81, bD v11)] [(2, .box (Ag p0)), (3, .box (AB p1))]) (fun j11 h => ?_) (fun v11 h => ?_)
      ·refine Ai Az rfl (qf CE rfl (ql A1 rfl (qm rfl ?_)))
       refine BT h fun v12 a12 b12 h => qi Ax Da a12 (Ae b12) rfl (qk BW rfl (AT rfl (qm rfl ?_)))
       refine Ec 56 h rfl (fun h => ?_) fun h => ?_
       ·refine qw 7 rfl (qp rfl (qw 7 rfl (qp rfl (qw 8 rfl (qp rfl (Ac ?_))))))
        exact sn [] h
       ·refine qf CE rfl (ql A1 rfl (qm rfl ?_))
        refine BT h fun v14 a14 b14 h => qi Ax Da a14 (Ae b14) rfl (qk BW rfl (qm rfl (ET rfl (qp rfl (qm rfl ?_)))))
        refine Ec 65 h rfl (fun h => ?_) fun h => ?_
        ·refine qw 6 rfl (qp rfl (qw 8 rfl (qp rfl (Ac ?_))))
         exact sn [] h
        ·refine qf Br rfl (ql A1 rfl (qm rfl ?_))
         refine BT h fun v16 a16 b16 h => qi Ax Da a16 (Ae b16) rfl (qk BW rfl (AT rfl (qp rfl (qm rfl ?_))))
         refine Ec 73 h rfl (fun h => ?_) fun h => ?_
         ·refine qw 7 rfl (qp rfl (Ac ?_))
          exact sn [] h
         ·refine qf Br rfl (ql A1 rfl (qm rfl ?_))
          refine BT h fun v18 a18 b18 h => qi Ax Da a18 (Ae b18) rfl (qk BW rfl (qm rfl (ET rfl (qp rfl (Ac ?_)))))
          exact sn [] h
      ·refine Bd h (fun h => ?_) fun h => ?_
       ·refine wq rfl (qe rfl ?_)
        obtain rfl := sj h
        refine Af (sm [] [(4, iD 7)] [] rfl rfl) (Au ?_)
        exact ⟨⟨[_], tm, rfl⟩, tv⟩
       ·refine Al (wq rfl (qf CE rfl (ql A1 rfl (qm rfl ?_))))
        refine BT h fun v20 a20 b20 h => qi Ax Da a20 (Ae b20) rfl (qk BW rfl (qf Br rfl (ql A1 rfl (qm rfl ?_))))
        refine BT h fun v21 a21 b21 h => qi Ax Da a21 (Ae b21) rfl (qk BW rfl (BX rfl (AK (by kernel_rfl) ?_)))
        refine Bd h (fun h => ?_) fun h => ?_
        ·refine wq rfl (qe rfl ?_)
         obtain rfl := sj h
         refine Af (sm [] [(4, iD 1)] [] rfl rfl) (Au ?_)
         exact ⟨⟨[_], tm, rfl⟩, tv⟩
        ·refine Al (Ai Az rfl (AZ rfl (qm rfl (Ac ?_))))
         exact sn [] h
     ·refine AS ?_
      exact sn [] h
    ·refine Af hs (wp rfl (qf BU rfl (ql Gi rfl (AJ Dc rfl (qm rfl (Ac ?_))))))
     refine AH (L := D1 N p0 p1) h (fun v23 => mk [(2, oD (.ptr 2 0)), (3, oD (.ptr 3 0)), (95, pD (.sl (p0.fc.map AQ))), (96, iD ((p0.fc.length : Int))), (97, iD v23)] [(2, .box (Ag p0)), (3, .box (AB p1))]) (fun v24 => mk [] []) (fun _ _ => rfl) (sm [] _ _ rfl rfl) (fun j23 n23 v23 h => ?_) (fun v24 s h hs => ?_)
     ·unfold D1 at h
      refine wq rfl (AT rfl (Ac (AN ?_)))
      refine Bd h (fun h => ?_) fun h => ?_
      ·refine Al (AN (AL (wq rfl (qm rfl ?_))))
       refine BT h fun v26 a26 b26 h => qi Dc DR a26 (Ae b26) rfl (qK HT DR rfl (qz Kb rfl (qa rfl (qs DR rfl (Ac (wq rfl (qa rfl (qe rfl ?_))))))))
       refine AR h (fun v27 => mk [(2, oD (.ptr 2 0)), (3, oD (.ptr 3 0)), (8, iD v23), (10, pD (.val (.int .u8 v27.1))), (11, pD (.val (.int .u8 v27.2))), (95, pD (.sl (p0.fc.map AQ))), (96, iD ((p0.fc.length : Int))), (97, iD v23)] [(2, .box (Ag p0)), (3, .box (AB p1))]) (fun j27 h => ?_) (fun v27 h => ?_)
       ·refine wq rfl (qL HT DR rfl ?_)
        refine BY h fun v28 a28 h => Ay [] (Ki N v26 v28 a28) ZK rfl (Ac ?_)
        refine Bd h (fun h => ?_) fun h => ?_
        ·refine Ai Az rfl (qL A0 AF rfl (qf Dk rfl (ql BW rfl ?_)))
         refine BY h fun v30 a30 h => Ay [] (JF N p1 v26.fg v30 a30) VZ rfl (qf Bv rfl (ql A1 rfl (qf Dk rfl (ql BW rfl ?_))))
         refine BT h fun v31 a31 b31 h => qi Ax Da a31 (Ae b31) rfl (qk BW rfl ?_)
         refine Gf h fun c32 h => Jq rfl c32 (Qa rfl (qa rfl (qa rfl (AK (by kernel_rfl) ?_))))
         exact sn [] h
        ·refine Al ?_
         exact sn [] h
       ·refine AR h (fun v33 => mk [(2, oD (.ptr 2 0)), (3, oD (.ptr 3 0)), (95, pD (.sl (p0.fc.map AQ))), (96, iD ((p0.fc.length : Int))), (97, iD v23), (133, bD v33)] [(2, .box (Ag p0)), (3, .box (AB p1))]) (fun j33 h => ?_) (fun v33 h => ?_)
        ·refine Ai Az rfl (qm rfl (qf CI rfl (ql Hg rfl (qm rfl ?_))))
         refine BT h fun v34 a34 b34 h => qi Dj F3 a34 (Ae b34) rfl (qk Kc rfl (Jf rfl (BZ rfl (qm rfl ?_))))
         refine Ec 124 h rfl (fun h => ?_) fun h => ?_
         ·refine qw 8 rfl (qp rfl (Ac ?_))
          exact sn [] h
         ·refine qf CI rfl (ql Hg rfl (qm rfl ?_))
          refine BT h fun v36 a36 b36 h => qi Dj F3 a36 (Ae b36) rfl (qk Kc rfl (qm rfl (Jf rfl (BZ rfl (qp rfl (Ac ?_))))))
          exact sn [] h
        ·refine Bd h (fun h => ?_) fun h => ?_
         ·refine wq rfl (qe rfl ?_)
          obtain rfl := sj h
          refine Af (sm [] [(4, iD 1)] [] rfl rfl) (Au ?_)
          exact ⟨⟨[_], tm, rfl⟩, tv⟩
         ·refine Al (Ai Az rfl (AZ rfl (qm rfl (Ac ?_))))
          exact sn [] h
      ·refine AS ?_
       exact sn [] h
     ·refine Af hs (wq rfl (qe rfl ?_))
      obtain rfl := sj h
      refine Af (sm [] [(4, iD 0)] [] rfl rfl) (Au ?_)
      exact ⟨⟨[_], tm, rfl⟩, tv⟩
theorem Ey (N : Nat) (p0 : List Int) (r : (List Int)) (h : Bz N p0 = some r) : Av zA0 67 [pD (.sl (p0.map C8))] [(1, r.map C8)] (oD (.own 0)) := by
 unfold Bz at h
 refine cw (n := 8) (rs := [.tmp 2]) Tryz.func67 fun w0 S0 => ?_
 refine wq rfl (qa rfl (Ac (wp rfl (qm rfl ?_))))
 refine Uf (.p rfl) rfl Dj ?_
 refine Ac ?_
 refine Uo rfl (fun c2 => ?_) ?_
 ·have c2 := List.map_eq_nil_iff.1 c2
  rw [c2] at h
  have h : (some (([] : List Int))) = some r := h
  refine wq rfl (qe rfl ?_)
  obtain rfl := sj h
  refine Af ((Ba 2 2001 1 rfl rfl rfl).trans (sm [(1000, 2001)] [(2, oD (.own 1000))] [(1000, .vec 1 ((([] : List Int)).map C8))] rfl rfl)) (Au ?_)
  exact ⟨⟨[_], tm, rfl⟩, ⟨rfl, tv⟩⟩
 ·refine Al (wq rfl (DI Dj F3 OY rfl (qm rfl ?_)))
  refine Gf h fun c1 h => HC (f := C8) Dj Dj F3 R9 OY (fun _ => rfl) c1 rfl (qe rfl ?_)
  obtain rfl := sj h
  refine Af (sm [(1000, 7)] [(2, oD (.own 1000))] [(1000, .vec 1 (((([] : List Int)) ++ p0).map C8))] rfl rfl) (Au ?_)
  exact ⟨⟨[_], tm, rfl⟩, ⟨rfl, tv⟩⟩
theorem Rm (N : Nat) (p0 : Aa) (p1 : Ab) (r : (List Ab) × Int) (h : Hd N p0 p1 = some r) : Av zA0 99 [.e (.agg (Ag p0)), .e (.agg (AB p1))] [(3, r.1.map Ar)] (.tup [.one (.own 0), .one (iC r.2)]) := by
 unfold Hd at h
 refine cw (n := 75) (rs := [.tmp 4, .tmp 5]) Tryz.func99 fun w0 S0 => ?_
 refine wq rfl (qb rfl (qb rfl (qa rfl (qa rfl (Ac (wp rfl (qL C0 Cx rfl (qL A0 AF rfl ?_))))))))
 refine BY h fun v1 a1 h => Ay [] (Io N p0 p1 v1 a1) WR rfl (qa rfl (Ac (wq rfl (qm rfl (BZ rfl (Ac ?_))))))
 refine Bd h (fun h => ?_) fun h => ?_
 ·refine wq rfl (qm rfl (qa rfl (qe rfl ?_)))
  obtain rfl := sj h
  refine Af ((Ba 4 2001 3 rfl rfl rfl).trans (sm [(1000, 2001)] [(4, oD (.own 1000)), (5, iD v1)] [(1000, .vec 3 ((([] : List Ab)).map Ar))] rfl rfl)) (Au ?_)
  exact ⟨⟨[_, _], ⟨.tmp _ _ rfl, tm⟩, rfl⟩, ⟨rfl, tv⟩⟩
 ·refine Al (wq rfl (qa rfl (Ac (wp rfl (qf Br rfl (ql A1 rfl (AJ Ax rfl (qm rfl (Ac ?_)))))))))
  refine AH (L := D6 N p1) h (fun v3 => mk [(3, oD (.ptr 3 0)), (7, oD (.own 2002)), (22, pD (.sl (p1.fa.map Ap))), (23, iD ((p1.fa.length : Int))), (24, iD v3.2)] [(3, .box (AB p1)), (2002, .vec 1 (v3.1.map Ap))]) (fun v4 => mk [(3, oD (.ptr 3 0)), (7, oD (.own 2003))] [(3, .box (AB p1)), (2003, .vec 1 (v4.map Ap))]) (fun _ _ => rfl) ((Ba 7 2005 1 rfl rfl rfl).trans (sm [(2002, 2005)] _ _ rfl rfl)) (fun j3 n3 v3 h => ?_) (fun v4 s h hs => ?_)
  ·unfold D6 at h
   refine wq rfl (AT rfl (Ac (AN ?_)))
   refine Bd h (fun h => ?_) fun h => ?_
   ·refine Al ?_
    refine AR h (fun v6 => mk [(3, oD (.ptr 3 0)), (7, oD (.own 2004)), (22, pD (.sl (p1.fa.map Ap))), (23, iD ((p1.fa.length : Int))), (24, iD v3.2)] [(3, .box (AB p1)), (2004, .vec 1 (v6.map Ap))]) (fun j6 h => ?_) (fun v6 h => ?_)
    ·refine AL (wq rfl (qm rfl ?_))
     refine BT h fun v7 a7 b7 h => qi Ax Da a7 (Ae b7) rfl (qk BW rfl (qa rfl (qa rfl (Ac (wq rfl (qm rfl (ET rfl (Ac ?_))))))))
     refine Bd h (fun h => ?_) fun h => ?_
     ·refine Ai Az rfl (qw 2 rfl (DI Ax Da JZ rfl ?_))
      refine Gf h fun c9 h => DH (f := Ap) Ax Ax Da Lt JZ c9 rfl (qe rfl ?_)
      exact sn [(2004, 34)] h
     ·refine Al ?_
      exact sn [(2004, 2002)] h
    ·refine Ai Az rfl (AZ rfl (qm rfl (Ac ?_)))
     exact sn [(2002, 2004)] h
   ·refine AS ?_
    exact sn [(2003, 2002)] h
  ·refine Af hs (wq rfl (qa rfl (Ac (wp rfl (qm rfl (DQ Ax rfl ?_))))))
   refine Gf h fun c10 h => Jq rfl c10 (qm rfl (Ac ?_))
   refine AH (L := C7 N p1 v4) h (fun v11 => mk [(3, oD (.ptr 3 0)), (7, oD (.own 2006)), (10, oD (.own 2007)), (38, iD ((Ee .i64 1 ((v4.length : Int))))), (39, iD v11.2)] [(3, .box (AB p1)), (2006, .vec 1 (v4.map Ap)), (2007, .vec 3 (v11.1.map Ar))]) (fun v12 => mk [(10, oD (.own 2008))] [(2008, .vec 3 (v12.map Ar))]) (fun _ _ => rfl) ((Ba 10 2027 3 rfl rfl rfl).trans (sm [(2006, 2003), (2007, 2027)] _ _ rfl rfl)) (fun j11 n11 v11 h => ?_) (fun v12 s h hs => ?_)
   ·unfold C7 at h
    refine wq rfl (AT rfl (Ac (AN ?_)))
    refine Bd h (fun h => ?_) fun h => ?_
    ·refine Al (AN (AL (wq rfl (qm rfl (qa rfl (Ac (wq rfl (qf CE rfl (ql A1 rfl ?_)))))))))
     refine BY h fun v14 a14 h => Ay [2009] (CY N p1.fd v14 a14) TT rfl (qf Br rfl (ql A1 rfl ?_))
     refine BY h fun v15 a15 h => Ay [2010] (CY N p1.fa v15 a15) TT rfl (qf CI rfl (ql Hg rfl ?_))
     refine BY h fun v16 a16 h => Ay [2011] (Ey N p1.fe v16 a16) Zy rfl (A9 Ci Hn rfl (qz Ci rfl (qs AF rfl (AK (by kernel_rfl) (wp rfl (qm rfl (DQ Ax rfl (qm rfl (Ac ?_)))))))))
     refine AH (L := C6 N v4 v11) h (fun v17 => mk [(3, oD (.ptr 3 0)), (7, oD (.own 2015)), (10, oD (.own 2016)), (11, iD v11.2), (12, oD (.ptr 12 0)), (38, iD ((Ee .i64 1 ((v4.length : Int))))), (39, iD v11.2), (52, oD (.own 2015)), (53, iD ((v4.length : Int))), (54, iD v17.2)] [(3, .box (AB p1)), (12, .box [.own 2012, .own 2013, .own 2014]), (2012, .vec 1 (v14.map Ap)), (2013, .vec 1 (v17.1.map Ap)), (2014, .vec 1 (v16.map C8)), (2015, .vec 1 (v4.map Ap)), (2016, .vec 3 (v11.1.map Ar))]) (fun v18 => mk [(3, oD (.ptr 3 0)), (7, oD (.own 2020)), (10, oD (.own 2021)), (12, oD (.ptr 12 0)), (38, iD ((Ee .i64 1 ((v4.length : Int))))), (39, iD v11.2)] [(3, .box (AB p1)), (12, .box [.own 2017, .own 2018, .own 2019]), (2017, .vec 1 (v14.map Ap)), (2018, .vec 1 (v18.map Ap)), (2019, .vec 1 (v16.map C8)), (2020, .vec 1 (v4.map Ap)), (2021, .vec 3 (v11.1.map Ar))]) (fun _ _ => rfl) (sm [(2012, 2009), (2013, 2010), (2014, 2011), (2015, 2006), (2016, 2007)] _ _ rfl rfl) (fun j17 n17 v17 h => ?_) (fun v18 s h hs => ?_)
     ·unfold C6 at h
      refine wq rfl (AT rfl (Ac (AN ?_)))
      refine Bd h (fun h => ?_) fun h => ?_
      ·refine Al ?_
       refine AR h (fun v20 => mk [(3, oD (.ptr 3 0)), (7, oD (.own 2025)), (10, oD (.own 2026)), (11, iD v11.2), (12, oD (.ptr 12 0)), (38, iD ((Ee .i64 1 ((v4.length : Int))))), (39, iD v11.2), (52, oD (.own 2025)), (53, iD ((v4.length : Int))), (54, iD v17.2)] [(3, .box (AB p1)), (12, .box [.own 2022, .own 2023, .own 2024]), (2022, .vec 1 (v14.map Ap)), (2023, .vec 1 (v20.map Ap)), (2024, .vec 1 (v16.map C8)), (2025, .vec 1 (v4.map Ap)), (2026, .vec 3 (v11.1.map Ar))]) (fun j20 h => ?_) (fun v20 h => ?_)
       ·refine AL (wq rfl (qm rfl ?_))
        refine BT h fun v21 a21 b21 h => qI Ax Da a21 (Ae b21) rfl (qj BW (Ae b21) rfl (qa rfl (qa rfl (Ac (wq rfl (qw 2 rfl ?_))))))
        refine Gf h fun c22 h => Jv rfl c22 (NH rfl (BX rfl (Ac ?_)))
        refine Bd h (fun h => ?_) fun h => ?_
        ·refine Ai Az rfl (qf Br rfl (ql A1 rfl (qm rfl ?_)))
         refine BT h fun v24 a24 b24 h => qI Ax Da a24 (Ae b24) rfl ?_
         refine EH rfl rfl rfl rfl (Ae b24) rfl Da rfl (Ig rfl) (Ej Ap v17.1 _ ((-1))) ?_
         refine Ac ?_
         exact sn [(2022, 2012), (2023, 2013), (2024, 2014), (2025, 2015), (2026, 2016)] h
        ·refine Al ?_
         exact sn [(2022, 2012), (2023, 2013), (2024, 2014), (2025, 2015), (2026, 2016)] h
       ·refine Ai Az rfl (AZ rfl (qm rfl (Ac ?_)))
        exact sn [(2012, 2022), (2013, 2023), (2014, 2024), (2015, 2025), (2016, 2026)] h
      ·refine AS ?_
       exact sn [(2017, 2012), (2018, 2013), (2019, 2014), (2020, 2015), (2021, 2016)] h
     ·refine Af hs (Ai Az rfl (qm rfl (qL A0 AF rfl (Dh (AW 2017 _ _ rfl rfl) (Dh (AW 2018 _ _ rfl rfl) (Dh (AW 2019 _ _ rfl rfl) (DI BB AF Ci rfl ?_)))))))
      refine Gf h fun c25 h => DH (f := Ar) BB BB AF NT Ci c25 rfl (qa rfl (Ac (Ai Az rfl (AZ rfl (qm rfl (Ac ?_))))))
      exact sn [(2006, 2020), (2007, 72)] h
    ·refine AS ?_
     exact sn [(2008, 2007)] h
   ·refine Af hs (wq rfl (qm rfl (qa rfl (qe rfl ?_))))
    obtain rfl := sj h
    refine Af (sm [(1000, 2008)] [(4, oD (.own 1000)), (5, iD 0)] [(1000, .vec 3 (v12.map Ar))] rfl rfl) (Au ?_)
    exact ⟨⟨[_, _], ⟨.tmp _ _ rfl, tm⟩, rfl⟩, ⟨rfl, tv⟩⟩
theorem N7 (N : Nat) (p0 : Aa) (p1 : Ab) (r : (List Ad)) (h : FW N p0 p1 = some r) : Av zA0 100 [.e (.agg (Ag p0)), .e (.agg (AB p1))] [(3, r.map Ao)] (oD (.own 0)) := by
 unfold FW at h
 refine cw (n := 98) (rs := [.tmp 4]) Tryz.func100 fun w0 S0 => ?_
 refine wq rfl (qb rfl (qb rfl (qa rfl (Ac (wq rfl (qa rfl (Ac (wp rfl (qf BU rfl (ql Gi rfl (AJ Dc rfl (qm rfl (Ac ?_)))))))))))))
 refine AH (L := DE N p0 p1) h (fun v1 => mk [(3, oD (.ptr 3 0)), (5, oD (.own 2001)), (15, pD (.sl (p0.fc.map AQ))), (16, iD ((p0.fc.length : Int))), (17, iD v1.2)] [(3, .box (AB p1)), (2001, .vec 3 (v1.1.map Ao))]) (fun v2 => mk [(5, oD (.own 2002))] [(2002, .vec 3 (v2.map Ao))]) (fun _ _ => rfl) ((Ba 5 2013 3 rfl rfl rfl).trans (sm [(2001, 2013)] _ _ rfl rfl)) (fun j1 n1 v1 h => ?_) (fun v2 s h hs => ?_)
 ·unfold DE at h
  refine wq rfl (AT rfl (Ac (AN ?_)))
  refine Bd h (fun h => ?_) fun h => ?_
  ·refine Al (AN (AL (wq rfl (qm rfl ?_))))
   refine BT h fun v4 a4 b4 h => qi Dc DR a4 (Ae b4) rfl (qK HT DR rfl (qz Kb rfl (qa rfl (qs DR rfl (Ac (wq rfl (qL A0 AF rfl (qf Dk rfl (ql BW rfl ?_)))))))))
   refine BY h fun v5 a5 h => Ay [] (JF N p1 v4.fg v5 a5) VZ rfl (qL A0 AF rfl (qf Ic rfl (ql BW rfl ?_)))
   refine BY h fun v6 a6 h => Ay [] (JF N p1 v4.fm v6 a6) VZ rfl (qa rfl (qa rfl (AK (by kernel_rfl) ?_)))
   refine AR h (fun v7 => mk [(3, oD (.ptr 3 0)), (5, oD (.own 2003)), (6, iD v1.2), (7, oD (.ptr 7 0)), (8, pD (.val (.int .u8 v7))), (9, pD (.val (.int .u8 v6))), (15, pD (.sl (p0.fc.map AQ))), (16, iD ((p0.fc.length : Int))), (17, iD v1.2)] [(3, .box (AB p1)), (7, .box (Be v4)), (2003, .vec 3 (v1.1.map Ao))]) (fun j7 h => ?_) (fun v7 h => ?_)
   ·refine wq rfl (qL HT DR rfl ?_)
    refine BY h fun v8 a8 h => Ay [] (Ki N v4 v8 a8) ZK rfl (Ac ?_)
    refine Bd h (fun h => ?_) fun h => ?_
    ·refine Ai Az rfl (qf CI rfl (ql Hg rfl (qm rfl ?_)))
     refine BT h fun v10 a10 b10 h => qi Dj F3 a10 (Ae b10) rfl (qk Kc rfl (qe rfl ?_))
     exact sn [(2003, 2001)] h
    ·refine Al ?_
     exact sn [(2003, 2001)] h
   ·refine wq rfl (qf HQ rfl (ql Jl rfl (AJ Fo rfl (qm rfl (Ac ?_)))))
    refine AH (L := Cs N v1 v4 v6 v7) h (fun v11 => mk [(3, oD (.ptr 3 0)), (5, oD (.own 2004)), (6, iD v1.2), (7, oD (.ptr 7 0)), (8, pD (.val (.int .u8 v7))), (9, pD (.val (.int .u8 v6))), (15, pD (.sl (p0.fc.map AQ))), (16, iD ((p0.fc.length : Int))), (17, iD v1.2), (39, iD ((v4.fk.length : Int))), (40, iD v11.2)] [(3, .box (AB p1)), (7, .box (Be v4)), (2004, .vec 3 (v11.1.map Ao))]) (fun v12 => mk [(3, oD (.ptr 3 0)), (5, oD (.own 2005)), (15, pD (.sl (p0.fc.map AQ))), (16, iD ((p0.fc.length : Int))), (17, iD v1.2)] [(3, .box (AB p1)), (2005, .vec 3 (v12.map Ao))]) (fun _ _ => rfl) (sm [(2004, 2003)] _ _ rfl rfl) (fun j11 n11 v11 h => ?_) (fun v12 s h hs => ?_)
    ·unfold Cs at h
     refine wq rfl (AT rfl (Ac (AN ?_)))
     refine Bd h (fun h => ?_) fun h => ?_
     ·refine Al ?_
      refine AR h (fun v14 => mk [(3, oD (.ptr 3 0)), (5, oD (.own 2006)), (6, iD v1.2), (7, oD (.ptr 7 0)), (8, pD (.val (.int .u8 v7))), (9, pD (.val (.int .u8 v6))), (15, pD (.sl (p0.fc.map AQ))), (16, iD ((p0.fc.length : Int))), (17, iD v1.2), (39, iD ((v4.fk.length : Int))), (40, iD v11.2)] [(3, .box (AB p1)), (7, .box (Be v4)), (2006, .vec 3 (v14.map Ao))]) (fun j14 h => ?_) (fun v14 h => ?_)
      ·refine AL (wq rfl (qm rfl (qa rfl (Ac (wp rfl (qw 2 rfl ?_))))))
       refine Gf h fun c15 h => Jv rfl c15 (NH rfl (BX rfl (Ac ?_)))
       refine Bd h (fun h => ?_) fun h => ?_
       ·refine AS ?_
        exact sn [(2006, 2004)] h
       ·refine Al (wq rfl (qa rfl (Ac (wp rfl (qf HQ rfl (ql Jl rfl (qm rfl ?_)))))))
        refine BT h fun v17 a17 b17 h => qi Fo La a17 (Ae b17) rfl (qk Od rfl (AJ FZ rfl (qm rfl (Ac ?_))))
        refine AH (L := Cb N v1 v4 v6 v11 v17) h (fun v18 => mk [(3, oD (.ptr 3 0)), (5, oD (.own 2007)), (6, iD v1.2), (7, oD (.ptr 7 0)), (8, pD (.val (.int .u8 v7))), (9, pD (.val (.int .u8 v6))), (10, iD v11.2), (11, bD v18.2.1), (15, pD (.sl (p0.fc.map AQ))), (16, iD ((p0.fc.length : Int))), (17, iD v1.2), (39, iD ((v4.fk.length : Int))), (40, iD v11.2), (52, pD (.sl (v17.map eB))), (53, iD ((v17.length : Int))), (54, iD v18.2.2)] [(3, .box (AB p1)), (7, .box (Be v4)), (2007, .vec 3 (v18.1.map Ao))]) (fun v19 => mk [(3, oD (.ptr 3 0)), (5, oD (.own 2008)), (6, iD v1.2), (7, oD (.ptr 7 0)), (8, pD (.val (.int .u8 v7))), (9, pD (.val (.int .u8 v6))), (10, iD v11.2), (11, bD v19.2), (15, pD (.sl (p0.fc.map AQ))), (16, iD ((p0.fc.length : Int))), (17, iD v1.2), (39, iD ((v4.fk.length : Int))), (40, iD v11.2)] [(3, .box (AB p1)), (7, .box (Be v4)), (2008, .vec 3 (v19.1.map Ao))]) (fun _ _ => rfl) (sm [(2007, 2004)] _ _ rfl rfl) (fun j18 n18 v18 h => ?_) (fun v19 s h hs => ?_)
        ·unfold Cb at h
         refine wq rfl (AT rfl (Ac (AN ?_)))
         refine Bd h (fun h => ?_) fun h => ?_
         ·refine Al ?_
          refine AR h (fun v21 => mk [(3, oD (.ptr 3 0)), (5, oD (.own 2009)), (6, iD v1.2), (7, oD (.ptr 7 0)), (8, pD (.val (.int .u8 v7))), (9, pD (.val (.int .u8 v6))), (10, iD v11.2), (11, bD v21.2), (15, pD (.sl (p0.fc.map AQ))), (16, iD ((p0.fc.length : Int))), (17, iD v1.2), (39, iD ((v4.fk.length : Int))), (40, iD v11.2), (52, pD (.sl (v17.map eB))), (53, iD ((v17.length : Int))), (54, iD v18.2.2)] [(3, .box (AB p1)), (7, .box (Be v4)), (2009, .vec 3 (v21.1.map Ao))]) (fun j21 h => ?_) (fun v21 h => ?_)
          ·refine AL (wq rfl (qm rfl ?_))
           refine BT h fun v22 a22 b22 h => qi FZ PQ a22 (Ae b22) rfl (qk Td rfl (qa rfl (qa rfl (Ac (wp rfl (qw 2 rfl ?_))))))
           refine Gf h fun c23 h => Jv rfl c23 (NH rfl (BX rfl (Ac ?_)))
           refine Bd h (fun h => ?_) fun h => ?_
           ·refine AS ?_
            exact sn [(2009, 2007)] h
           ·refine Al ?_
            refine AR h (fun v25 => mk [(3, oD (.ptr 3 0)), (5, oD (.own 2010)), (6, iD v1.2), (7, oD (.ptr 7 0)), (8, pD (.val (.int .u8 v7))), (9, pD (.val (.int .u8 v6))), (10, iD v11.2), (11, bD v25), (12, iD v18.2.2), (13, bD v22), (15, pD (.sl (p0.fc.map AQ))), (16, iD ((p0.fc.length : Int))), (17, iD v1.2), (39, iD ((v4.fk.length : Int))), (40, iD v11.2), (52, pD (.sl (v17.map eB))), (53, iD ((v17.length : Int))), (54, iD v18.2.2)] [(3, .box (AB p1)), (7, .box (Be v4)), (2010, .vec 3 (v18.1.map Ao))]) (fun j25 h => ?_) (fun v25 h => ?_)
            ·refine Ai Az rfl (qw 2 rfl ?_)
             refine Ec 65 h rfl (fun h => ?_) fun h => ?_
             ·refine qn rfl (qp rfl (qe rfl ?_))
              exact sn [(2010, 2007)] h
             ·refine qm rfl (qp rfl (qe rfl ?_))
              exact sn [(2010, 2007)] h
            ·refine AR h (fun v27 => mk [(3, oD (.ptr 3 0)), (5, oD (.own 2011)), (6, iD v1.2), (7, oD (.ptr 7 0)), (8, pD (.val (.int .u8 v7))), (9, pD (.val (.int .u8 v6))), (10, iD v11.2), (11, bD v25), (12, iD v18.2.2), (15, pD (.sl (p0.fc.map AQ))), (16, iD ((p0.fc.length : Int))), (17, iD v1.2), (39, iD ((v4.fk.length : Int))), (40, iD v11.2), (52, pD (.sl (v17.map eB))), (53, iD ((v17.length : Int))), (54, iD v18.2.2), (74, bD v27)] [(3, .box (AB p1)), (7, .box (Be v4)), (2011, .vec 3 (v18.1.map Ao))]) (fun j27 h => ?_) (fun v27 h => ?_)
             ·refine Ai Az rfl (qm rfl (CF rfl (qm rfl ?_)))
              refine Ec 70 h rfl (fun h => ?_) fun h => ?_
              ·refine qf IH rfl (ql Td rfl (CF rfl (qp rfl (Ac ?_))))
               exact sn [(2011, 2010)] h
              ·refine qw 3 rfl (qp rfl (Ac ?_))
               exact sn [(2011, 2010)] h
             ·refine Bd h (fun h => ?_) fun h => ?_
              ·refine Ai Az rfl (qw 4 rfl (A9 IP Ty rfl (DI Ed E2 IP rfl ?_)))
               refine Gf h fun c30 h => DH (f := Ao) Ed Ed E2 RC IP c30 rfl (qe rfl ?_)
               exact sn [(2009, 81)] h
              ·refine Al ?_
               exact sn [(2009, 2011)] h
          ·refine Ai Az rfl (AZ rfl (qm rfl (Ac ?_)))
           exact sn [(2007, 2009)] h
         ·refine AS ?_
          exact sn [(2008, 2007)] h
        ·refine Af hs ?_
         refine AR h (fun v31 => mk [(3, oD (.ptr 3 0)), (5, oD (.own 2012)), (6, iD v1.2), (7, oD (.ptr 7 0)), (8, pD (.val (.int .u8 v7))), (9, pD (.val (.int .u8 v6))), (10, iD v11.2), (15, pD (.sl (p0.fc.map AQ))), (16, iD ((p0.fc.length : Int))), (17, iD v1.2), (39, iD ((v4.fk.length : Int))), (40, iD v11.2), (88, bD v31)] [(3, .box (AB p1)), (7, .box (Be v4)), (2012, .vec 3 (v19.1.map Ao))]) (fun j31 h => ?_) (fun v31 h => ?_)
         ·refine Ai Az rfl (qf IH rfl (ql Td rfl (qm rfl ?_)))
          refine Ec 85 h rfl (fun h => ?_) fun h => ?_
          ·refine qm rfl (CF rfl (qp rfl (Ac ?_)))
           exact sn [(2012, 2008)] h
          ·refine qw 2 rfl (qp rfl (Ac ?_))
           exact sn [(2012, 2008)] h
         ·refine Bd h (fun h => ?_) fun h => ?_
          ·refine Ai Az rfl (qw 3 rfl (A9 IP Ty rfl (DI Ed E2 IP rfl ?_)))
           refine Gf h fun c34 h => DH (f := Ao) Ed Ed E2 RC IP c34 rfl (qe rfl ?_)
           exact sn [(2006, 94)] h
          ·refine Al ?_
           exact sn [(2006, 2012)] h
      ·refine Ai Az rfl (AZ rfl (qm rfl (Ac ?_)))
       exact sn [(2004, 2006)] h
     ·refine AS ?_
      exact sn [(2005, 2004)] h
    ·refine Af hs (Ai Az rfl (AZ rfl (qm rfl (Ac ?_))))
     exact sn [(2001, 2005)] h
  ·refine AS ?_
   exact sn [(2002, 2001)] h
 ·refine Af hs (wq rfl (qm rfl (qe rfl ?_)))
  obtain rfl := sj h
  refine Af (sm [(1000, 2002)] [(4, oD (.own 1000))] [(1000, .vec 3 (v2.map Ao))] rfl rfl) (Au ?_)
  exact ⟨⟨[_], tm, rfl⟩, ⟨rfl, tv⟩⟩
theorem NU (N : Nat) (p0 : Aa) (p1 : Ab) (r : Ab × Ad × Int) (h : GR N p0 p1 = some r) : Av zA0 55 [.e (.agg (Ag p0)), .e (.agg (AB p1))] [] (.tup [.agg (AB r.1), .agg (FA r.2.1), .one (iC r.2.2)]) := by
 unfold GR at h
 refine cw (n := 42) (rs := [.cell 4 46, .cell 5 66, .tmp 6]) Tryz.func55 fun w0 S0 => ?_
 refine wq rfl (qb rfl (qb rfl (qz Ci rfl (qz IP rfl (qa rfl (Ac (wq rfl (qL C0 Cx rfl (qL A0 AF rfl ?_)))))))))
 refine BY h fun v1 a1 h => Ay [2001] (Rm N p0 p1 v1 a1) cr rfl (qm rfl (qx rfl (qx rfl (qa rfl (qa rfl (Ac (wp rfl (qm rfl (BZ rfl (Ac ?_))))))))))
 refine Bd h (fun h => ?_) fun h => ?_
 ·refine wq rfl (A9 Ci Hn rfl (A9 IP Ty rfl (qm rfl (qs AF rfl (qs E2 rfl (qe rfl ?_))))))
  obtain rfl := sj h
  refine Af ((Qp 4 _ rfl).trans (sm [] [(4, oD (.ptr 4 0)), (5, oD (.ptr 5 0)), (6, iD v1.2)] [(4, .box [sC ((([] : List Int)).map Ap), sC ((([] : List Int)).map Ap), sC ((([] : List Int)).map C8)]), (5, .box [iC 0, iC 0, iC 0])] rfl rfl)) (Au ?_)
  exact ⟨⟨[_, _, _], ⟨.cellN _ _ _ _ _ _ _ rfl rfl A0 AF rfl rfl (ID rfl), ⟨.cellN _ _ _ _ _ _ _ rfl rfl KE E2 rfl rfl (ID rfl), tm⟩⟩, rfl⟩, tv⟩
 ·refine Al (wp rfl (qm rfl (DQ BB rfl (qm rfl (Ac ?_)))))
  refine AH (L := EZ N p0 v1) h (fun v3 => mk [(2, oD (.ptr 2 0)), (4, oD (.ptr 4 0)), (5, oD (.ptr 5 0)), (23, oD (.own 2002)), (24, iD ((v1.1.length : Int))), (25, iD v3)] [(2, .box (Ag p0)), (4, .box [.pure (.nil0), .pure (.nil0), .pure (.nil0)]), (5, .box [iC 0, iC 0, iC 0]), (2002, .vec 3 (v1.1.map Ar))]) (fun v4 => mk [(4, oD (.ptr 4 0)), (5, oD (.ptr 5 0))] [(4, .box [.pure (.nil0), .pure (.nil0), .pure (.nil0)]), (5, .box [iC 0, iC 0, iC 0])]) (fun _ _ => rfl) (sm [(2002, 2001)] _ _ rfl rfl) (fun j3 n3 v3 h => ?_) (fun v4 s h hs => ?_)
  ·unfold EZ at h
   refine wq rfl (AT rfl (Ac (AN ?_)))
   refine Bd h (fun h => ?_) fun h => ?_
   ·refine Al (AN (AL (wq rfl ?_)))
    refine BT h fun v6 a6 b6 h => qI BB AF a6 (Ae b6) rfl (qJ A0 AF (Ae b6) rfl (qz Ci rfl (qs AF rfl (Ac (wq rfl (qL C0 Cx rfl (qL A0 AF rfl ?_)))))))
    refine BY h fun v7 a7 h => Ay [2003] (N7 N p0 v6 v7 a7) au rfl (qa rfl (Ac (wq rfl (qm rfl (DQ Ed rfl (Gt rfl (Ac ?_)))))))
    refine Bd h (fun h => ?_) fun h => ?_
    ·refine wq rfl (qL A0 AF rfl (qm rfl ?_))
     refine BT h fun v9 a9 b9 h => qI Ed E2 a9 (Ae b9) rfl (qJ KE E2 (Ae b9) rfl (qs AF rfl (qs E2 rfl (qa rfl (AK (by kernel_rfl) ?_)))))
     obtain rfl := sj h
     refine Af (sm [] [(4, oD (.ptr 4 0)), (5, oD (.ptr 5 0)), (6, iD 0)] [(4, .box (AB v6)), (5, .box (FA v9))] rfl rfl) (Au ?_)
     exact ⟨⟨[_, _, _], ⟨.cellN _ _ _ _ _ _ _ rfl rfl A0 AF rfl rfl (ID rfl), ⟨.cellN _ _ _ _ _ _ _ rfl rfl KE E2 rfl rfl (ID rfl), tm⟩⟩, rfl⟩, tv⟩
    ·refine Al (Ai Az rfl (AZ rfl (qm rfl (Ac ?_))))
     exact sn [] h
   ·refine AS ?_
    exact sn [] h
  ·refine Af hs (wq rfl (A9 Ci Hn rfl (A9 IP Ty rfl (qs AF rfl (qs E2 rfl (qe rfl ?_))))))
   obtain rfl := sj h
   refine Af ((Qp 4 _ rfl).trans (sm [] [(4, oD (.ptr 4 0)), (5, oD (.ptr 5 0)), (6, iD 15)] [(4, .box [sC ((([] : List Int)).map Ap), sC ((([] : List Int)).map Ap), sC ((([] : List Int)).map C8)]), (5, .box [iC 0, iC 0, iC 0])] rfl rfl)) (Au ?_)
   exact ⟨⟨[_, _, _], ⟨.cellN _ _ _ _ _ _ _ rfl rfl A0 AF rfl rfl (ID rfl), ⟨.cellN _ _ _ _ _ _ _ rfl rfl KE E2 rfl rfl (ID rfl), tm⟩⟩, rfl⟩, tv⟩
theorem HD (N : Nat) (p0 : Aa) (p1 : Ab) (r : Bool × Int) (h : EF N p0 p1 = some r) : Av zA0 45 [.e (.agg (Ag p0)), .e (.agg (AB p1))] [] (.tup [.one (.pure (.val (.bool r.1))), .one (iC r.2)]) := by
 unfold EF at h
 refine cw (n := 22) (rs := [.tmp 4, .tmp 5]) Tryz.func45 fun w0 S0 => ?_
 refine wq rfl (qb rfl (qb rfl (qa rfl (qa rfl (Ac (wq rfl (qL C0 Cx rfl (qL A0 AF rfl ?_))))))))
 refine BY h fun v1 a1 h => Ay [] (NU N p0 p1 v1 a1) aO rfl (qm rfl (qx rfl (qx rfl (qx rfl (qz Ci rfl (qz IP rfl (qs AF rfl (qs E2 rfl (qa rfl (Ac (wq rfl (qm rfl (Ac (AL (wq rfl (BX rfl (qe rfl ?_)))))))))))))))))
 refine Bd h (fun h => ?_) fun h => ?_
 ·refine wq rfl (qa rfl (qe rfl ?_))
  obtain rfl := sj h
  refine Af (sm [] [(4, bD false), (5, iD 0)] [] rfl rfl) (Au ?_)
  exact ⟨⟨[_, _], ⟨.tmp _ _ rfl, tm⟩, rfl⟩, tv⟩
 ·refine wq rfl (BX rfl (qe rfl ?_))
  refine Bd h (fun h => ?_) fun h => ?_
  ·refine wq rfl (qa rfl (qe rfl ?_))
   obtain rfl := sj h
   refine Af (sm [] [(4, bD true), (5, iD 0)] [] rfl rfl) (Au ?_)
   exact ⟨⟨[_, _], ⟨.tmp _ _ rfl, tm⟩, rfl⟩, tv⟩
  ·refine wq rfl (qm rfl (qa rfl (qe rfl ?_)))
   obtain rfl := sj h
   refine Af (sm [] [(4, bD false), (5, iD v1.2.2)] [] rfl rfl) (Au ?_)
   exact ⟨⟨[_, _], ⟨.tmp _ _ rfl, tm⟩, rfl⟩, tv⟩
theorem PE (N : Nat) (p0 : Aa) (r : Ab × Bool × Int) (h : Gy N p0 = some r) : Av zA0 83 [.e (.agg (Ag p0))] [(1, r.1.fd.map Ap), (1, r.1.fa.map Ap), (1, r.1.fe.map C8)] (.tup [.agg [.own 0, .own 1, .own 2], .one (.pure (.val (.bool r.2.1))), .one (iC r.2.2)]) := by
 unfold Gy at h
 refine cw (n := 26) (rs := [.cell 2 46, .tmp 3, .tmp 4]) Tryz.func83 fun w0 S0 => ?_
 refine wq rfl (qb rfl (qz Ci rfl (qa rfl (qa rfl (Ac (wq rfl (qL C0 Cx rfl ?_)))))))
 refine BY h fun v1 a1 h => Ay [2001, 2002, 2003] (NP N p0 v1 a1) aV rfl (qm rfl (qx rfl (qx rfl (qz Ci rfl (qs AF rfl (qa rfl (Ac (wp rfl (qm rfl (BZ rfl (Ac ?_)))))))))))
 refine Bd h (fun h => ?_) fun h => ?_
 ·refine wq rfl (A9 Ci Hn rfl (qm rfl (qs AF rfl (qa rfl (qe rfl ?_)))))
  obtain rfl := sj h
  refine Af ((As 2 0 2004 1 _ rfl rfl rfl rfl).trans ((As 2 1 2005 1 _ rfl rfl rfl rfl).trans ((As 2 2 2006 1 _ rfl rfl rfl rfl).trans (sm [(1000, 2004), (1001, 2005), (1002, 2006)] [(2, oD (.ptr 2 0)), (3, bD false), (4, iD v1.2)] [(2, .box [.own 1000, .own 1001, .own 1002]), (1000, .vec 1 ((([] : List Int)).map Ap)), (1001, .vec 1 ((([] : List Int)).map Ap)), (1002, .vec 1 ((([] : List Int)).map C8))] rfl rfl)))) (Au ?_)
  exact ⟨⟨[_, _, _], ⟨.cellN _ _ _ _ _ _ _ rfl rfl A0 AF rfl rfl (ID rfl), ⟨.tmp _ _ rfl, tm⟩⟩, rfl⟩, ⟨rfl, rfl, rfl, tv⟩⟩
 ·refine Al (wq rfl (qL C0 Cx rfl (qL A0 AF rfl ?_)))
  refine BY h fun v3 a3 h => Dl [] [2001, 2002, 2003] (HD N p0 v1.1 v3 a3) WT BV rfl (qm rfl (qx rfl (qx rfl (qa rfl (qa rfl (Ac (wq rfl (qL A0 AF rfl (qw 2 rfl (qs AF rfl (qa rfl (qe rfl ?_))))))))))))
  obtain rfl := sj h
  refine Af (sm [(1000, 2001), (1001, 2002), (1002, 2003)] [(2, oD (.ptr 2 0)), (3, bD v3.1), (4, iD v3.2)] [(2, .box [.own 1000, .own 1001, .own 1002]), (1000, .vec 1 (v1.1.fd.map Ap)), (1001, .vec 1 (v1.1.fa.map Ap)), (1002, .vec 1 (v1.1.fe.map C8))] rfl rfl) (Au ?_)
  exact ⟨⟨[_, _, _], ⟨.cellN _ _ _ _ _ _ _ rfl rfl A0 AF rfl rfl (ID rfl), ⟨.tmp _ _ rfl, tm⟩⟩, rfl⟩, ⟨rfl, rfl, rfl, tv⟩⟩
theorem K0 (N : Nat) (p0 : Ab) (r : ByteArray) (h : F9 N p0 = some r) : Av zA0 84 [.e (.agg (AB p0))] [] (pD (.val (.string r))) := by
 unfold F9 at h
 refine cw (n := 44) (rs := [.tmp 2]) Tryz.func84 fun w0 S0 => ?_
 refine wq rfl (qb rfl (qa rfl (Ac (wq rfl (qa rfl (Ac (wp rfl (qf CE rfl (ql A1 rfl (AJ Ax rfl (qm rfl (Ac ?_))))))))))))
 refine AH (L := Ep N p0) h (fun v1 => mk [(1, oD (.ptr 1 0)), (3, oD (.own 2001)), (9, iD ((p0.fd.length : Int))), (10, iD v1.2)] [(1, .box (AB p0)), (2001, .vec 1 (v1.1.map C8))]) (fun v2 => mk [(1, oD (.ptr 1 0)), (3, oD (.own 2002))] [(1, .box (AB p0)), (2002, .vec 1 (v2.map C8))]) (fun _ _ => rfl) ((Ba 3 2003 1 rfl rfl rfl).trans (sm [(2001, 2003)] _ _ rfl rfl)) (fun j1 n1 v1 h => ?_) (fun v2 s h hs => ?_)
 ·unfold Ep at h
  refine wq rfl (AT rfl (Ac (AN ?_)))
  refine Bd h (fun h => ?_) fun h => ?_
  ·refine Al (AN (AL (wq rfl (qm rfl (qa rfl (Ac (Ai Az rfl (qm rfl (qf CE rfl (ql A1 rfl (qm rfl ?_)))))))))))
   refine BT h fun v4 a4 b4 h => qi Ax Da a4 (Ae b4) rfl (qk BW rfl (Jk bj cV rfl (qf Br rfl (ql A1 rfl (qm rfl ?_)))))
   refine BT h fun v5 a5 b5 h => qi Ax Da a5 (Ae b5) rfl (qk BW rfl (AZ rfl (Jk bj cV rfl (DI K4 ZY bN rfl ?_))))
   refine Gf h fun c6 h => DH (f := C8) K4 K4 ZY bp bN c6 rfl (qa rfl (AK (by kernel_rfl) (Ai Az rfl (AZ rfl (qm rfl (Ac ?_))))))
   exact sn [(2001, 28)] h
  ·refine AS ?_
   exact sn [(2002, 2001)] h
 ·refine Af hs (wp rfl (qf CI rfl (ql Hg rfl (AJ Dj rfl (qm rfl (Ac ?_))))))
  refine AH (L := Dv N p0) h (fun v7 => mk [(3, oD (.own 2004)), (31, pD (.sl (p0.fe.map C8))), (32, iD ((p0.fe.length : Int))), (33, iD v7.2)] [(2004, .vec 1 (v7.1.map C8))]) (fun v8 => mk [(3, oD (.own 2005))] [(2005, .vec 1 (v8.map C8))]) (fun _ _ => rfl) (sm [(2004, 2002)] _ _ rfl rfl) (fun j7 n7 v7 h => ?_) (fun v8 s h hs => ?_)
  ·unfold Dv at h
   refine wq rfl (AT rfl (Ac (AN ?_)))
   refine Bd h (fun h => ?_) fun h => ?_
   ·refine Al (AN (AL (wq rfl ?_)))
    refine BT h fun v10 a10 b10 h => qi Dj F3 a10 (Ae b10) rfl (qk Kc rfl (qa rfl (Ac (Ai Az rfl (qw 2 rfl (DI K4 ZY bN rfl ?_))))))
    refine Gf h fun c11 h => DH (f := C8) K4 K4 ZY bp bN c11 rfl (qa rfl (Ac (Ai Az rfl (AZ rfl (qm rfl (Ac ?_))))))
    exact sn [(2004, 40)] h
   ·refine AS ?_
    exact sn [(2005, 2004)] h
  ·refine Af hs (wq rfl (qm rfl ?_))
   refine Vs v8 (.p rfl) rfl (WK C8 _ _ _) ⟨rfl, tv⟩ rfl aY Z2 ?_
   refine qa rfl (Ac ?_)
   obtain rfl := sj h
   refine Af (sm [] [(2, pD (.val (.string ((CP v8)))))] [] rfl rfl) (Au ?_)
   exact ⟨⟨[_], tm, rfl⟩, tv⟩
theorem TY (N : Nat) (p0 : Aa) (r : (List Ah)) (h : It N p0 = some r) : Av zA0 95 [.e (.agg (Ag p0))] [(3, r.map AM)] (oD (.own 0)) := by
 unfold It at h
 refine cw (n := 54) (rs := [.tmp 2]) Tryz.func95 fun w0 S0 => ?_
 refine wq rfl (qb rfl (qa rfl (Ac (wq rfl (qa rfl (Ac (wp rfl (qf Bv rfl (ql A1 rfl (AJ Ax rfl (qm rfl (Ac ?_))))))))))))
 refine AH (L := Dm N p0) h (fun v1 => mk [(1, oD (.ptr 1 0)), (3, oD (.own 2001)), (10, pD (.sl (p0.fb.map Ap))), (11, iD ((p0.fb.length : Int))), (12, iD v1.2)] [(1, .box (Ag p0)), (2001, .vec 3 (v1.1.map AM))]) (fun v2 => mk [(1, oD (.ptr 1 0)), (3, oD (.own 2002))] [(1, .box (Ag p0)), (2002, .vec 3 (v2.map AM))]) (fun _ _ => rfl) ((Ba 3 2005 3 rfl rfl rfl).trans (sm [(2001, 2005)] _ _ rfl rfl)) (fun j1 n1 v1 h => ?_) (fun v2 s h hs => ?_)
 ·unfold Dm at h
  refine wq rfl (AT rfl (Ac (AN ?_)))
  refine Bd h (fun h => ?_) fun h => ?_
  ·refine Al (AN (AL (wq rfl (qm rfl ?_))))
   refine BT h fun v4 a4 b4 h => qi Ax Da a4 (Ae b4) rfl (qk BW rfl (qa rfl (qa rfl (Ac (wq rfl (qw 2 rfl (Ac ?_)))))))
   refine AH (L := EP N v1 v4) h (fun v5 => mk [(1, oD (.ptr 1 0)), (3, oD (.own 2003)), (4, iD v1.2), (10, pD (.sl (p0.fb.map Ap))), (11, iD ((p0.fb.length : Int))), (12, iD v1.2), (17, iD v4), (18, iD v5.2)] [(1, .box (Ag p0)), (2003, .vec 3 (v5.1.map AM))]) (fun v6 => mk [(1, oD (.ptr 1 0)), (3, oD (.own 2004)), (10, pD (.sl (p0.fb.map Ap))), (11, iD ((p0.fb.length : Int))), (12, iD v1.2)] [(1, .box (Ag p0)), (2004, .vec 3 (v6.map AM))]) (fun _ _ => rfl) (sm [(2003, 2001)] _ _ rfl rfl) (fun j5 n5 v5 h => ?_) (fun v6 s h hs => ?_)
   ·unfold EP at h
    refine wq rfl (AT rfl (Ac (AN ?_)))
    refine Bd h (fun h => ?_) fun h => ?_
    ·refine Al (AN (AL (wq rfl (qm rfl (qa rfl (Ac (Ai Az rfl (qw 3 rfl (A9 JE Wd rfl (DI Fj E8 JE rfl ?_))))))))))
     refine Gf h fun c8 h => DH (f := AM) Fj Fj E8 SO JE c8 rfl (qa rfl (Ac (Ai Az rfl (AZ rfl (qm rfl (Ac ?_))))))
     exact sn [(2003, 26)] h
    ·refine AS ?_
     exact sn [(2004, 2003)] h
   ·refine Af hs (Ai Az rfl (AZ rfl (qm rfl (Ac ?_))))
    exact sn [(2001, 2004)] h
  ·refine AS ?_
   exact sn [(2002, 2001)] h
 ·refine Af hs (wp rfl (qf Bv rfl (ql A1 rfl (AJ Ax rfl (qm rfl (Ac ?_))))))
  refine AH (L := Cv N p0) h (fun v9 => mk [(1, oD (.ptr 1 0)), (3, oD (.own 2006)), (31, iD ((p0.fb.length : Int))), (32, iD v9.2)] [(1, .box (Ag p0)), (2006, .vec 3 (v9.1.map AM))]) (fun v10 => mk [(1, oD (.ptr 1 0)), (3, oD (.own 2007))] [(1, .box (Ag p0)), (2007, .vec 3 (v10.map AM))]) (fun _ _ => rfl) (sm [(2006, 2002)] _ _ rfl rfl) (fun j9 n9 v9 h => ?_) (fun v10 s h hs => ?_)
  ·unfold Cv at h
   refine wq rfl (AT rfl (Ac (AN ?_)))
   refine Bd h (fun h => ?_) fun h => ?_
   ·refine Al (AN (AL (wq rfl (qm rfl (qa rfl (Ac (Ai Az rfl (qw 2 rfl (A9 JE Wd rfl (DI Fj E8 JE rfl ?_))))))))))
    refine Gf h fun c12 h => DH (f := AM) Fj Fj E8 SO JE c12 rfl (qa rfl (Ac (Ai Az rfl (AZ rfl (qm rfl (Ac ?_))))))
    exact sn [(2006, 39)] h
   ·refine AS ?_
    exact sn [(2007, 2006)] h
  ·refine Af hs (wp rfl (qf BU rfl (ql Gi rfl (AJ Dc rfl (qm rfl (Ac ?_))))))
   refine AH (L := Bw N p0) h (fun v13 => mk [(3, oD (.own 2008)), (43, iD ((p0.fc.length : Int))), (44, iD v13.2)] [(2008, .vec 3 (v13.1.map AM))]) (fun v14 => mk [(3, oD (.own 2009))] [(2009, .vec 3 (v14.map AM))]) (fun _ _ => rfl) (sm [(2008, 2007)] _ _ rfl rfl) (fun j13 n13 v13 h => ?_) (fun v14 s h hs => ?_)
   ·unfold Bw at h
    refine wq rfl (AT rfl (Ac (AN ?_)))
    refine Bd h (fun h => ?_) fun h => ?_
    ·refine Al (AN (AL (wq rfl (qm rfl (qa rfl (Ac (Ai Az rfl (qw 2 rfl (A9 JE Wd rfl (DI Fj E8 JE rfl ?_))))))))))
     refine Gf h fun c16 h => DH (f := AM) Fj Fj E8 SO JE c16 rfl (qa rfl (Ac (Ai Az rfl (AZ rfl (qm rfl (Ac ?_))))))
     exact sn [(2008, 51)] h
    ·refine AS ?_
     exact sn [(2009, 2008)] h
   ·refine Af hs (wq rfl (qm rfl (qe rfl ?_)))
    obtain rfl := sj h
    refine Af (sm [(1000, 2009)] [(2, oD (.own 1000))] [(1000, .vec 3 (v14.map AM))] rfl rfl) (Au ?_)
    exact ⟨⟨[_], tm, rfl⟩, ⟨rfl, tv⟩⟩
theorem PS (N : Nat) (p0 : Ab) (r : Ab) (h : Gz N p0 = some r) : Av zA0 123 [.e (.agg (AB p0))] [(1, r.fd.map Ap), (1, r.fa.map Ap), (1, r.fe.map C8)] (.e (.agg [.own 0, .own 1, .own 2])) := by
 unfold Gz at h
 refine cw (n := 13) (rs := [.cell 2 46]) Tryz.func123 fun w0 S0 => ?_
 refine wq rfl (qb rfl (qz Ci rfl (Ac (wq rfl (qf CE rfl (ql A1 rfl ?_))))))
 refine BY h fun v1 a1 h => Ay [2001] (CY N p0.fd v1 a1) TT rfl (qf Br rfl (ql A1 rfl ?_))
 refine BY h fun v2 a2 h => Ay [2002] (CY N p0.fa v2 a2) TT rfl (qf CI rfl (ql Hg rfl ?_))
 refine BY h fun v3 a3 h => Ay [2003] (Ey N p0.fe v3 a3) Zy rfl (A9 Ci Hn rfl (qs AF rfl (AK (by kernel_rfl) ?_)))
 obtain rfl := sj h
 refine Af (sm [(1000, 2001), (1001, 2002), (1002, 2003)] [(2, oD (.ptr 2 0))] [(2, .box [.own 1000, .own 1001, .own 1002]), (1000, .vec 1 (v1.map Ap)), (1001, .vec 1 (v2.map Ap)), (1002, .vec 1 (v3.map C8))] rfl rfl) (Au ?_)
 exact ⟨⟨[_], ⟨.cellN _ _ _ _ _ _ _ rfl rfl A0 AF rfl rfl (ID rfl), tv⟩, rfl⟩, ⟨rfl, rfl, rfl, tv⟩⟩
theorem LM (N : Nat) (p0 : An) (r : Bool) (h : FV N p0 = some r) : Av zA0 156 [.e (.agg (Be p0))] [] (bD r) := by
 unfold FV at h
 refine cw (n := 11) (rs := [.tmp 2]) Tryz.func156 fun w0 S0 => ?_
 refine wq rfl (qb rfl (qe rfl ?_))
 refine AR h (fun v1 => mk [(2, bD v1)] []) (fun j1 h => ?_) (fun v1 h => ?_)
 ·refine Ai Az rfl (qf F8 rfl (ql BW rfl (BX rfl (qm rfl ?_))))
  refine Ec 6 h rfl (fun h => ?_) fun h => ?_
  ·refine qw 3 rfl (qp rfl (qe rfl ?_))
   exact sn [] h
  ·refine qf F8 rfl (ql BW rfl (BX rfl (qp rfl (qe rfl ?_))))
   exact sn [] h
 ·obtain rfl := sj h
  refine Af (sm [] [(2, bD v1)] [] rfl rfl) (Au ?_)
  exact ⟨⟨[_], tm, rfl⟩, tv⟩
theorem QO (N : Nat) (p0 : Aa) (p1 : Ab) (p2 : Ah) (r : Bool × (List Int) × (List Int)) (h : Ie N p0 p1 p2 = some r) : Dy zA0 124 [.e (.agg (Ag p0)), oD (.ptr 90000 0), .e (.agg (DD p2))] [(.box [.own 90001, .own 90002, .own 90003], .box [.own 90001, .own 90002, .own 90003]), (.vec 1 (p1.fd.map Ap), .vec 1 (p1.fd.map Ap)), (.vec 1 (p1.fa.map Ap), .vec 1 (r.2.1.map Ap)), (.vec 1 (p1.fe.map C8), .vec 1 (r.2.2.map C8))] [] (bD r.1) := by
 unfold Ie at h
 refine Fi (n := 70) (rs := [.tmp 6]) Tryz.func124 rfl rfl rfl (Ig rfl) (Ig rfl) rfl rfl (Ig rfl) rfl (Ig rfl) fun w0 S0 GL => ?_
 refine Af (sm [] [(0, .e (.agg (Ag p0))), (1, oD (.ptr 90000 0)), (2, .e (.agg (DD p2)))] [(90000, .box [.own 90001, .own 90002, .own 90003]), (90001, .vec 1 (p1.fd.map Ap)), (90002, .vec 1 (p1.fa.map Ap)), (90003, .vec 1 (p1.fe.map C8))] rfl rfl) (wq rfl (qb rfl (qb rfl (qa rfl (Ac (AN ?_))))))
 refine AR h (fun v1 => mk [(1, oD (.ptr 90000 0)), (3, oD (.ptr 3 0)), (5, oD (.ptr 5 0)), (30, bD v1)] [(3, .box (Ag p0)), (5, .box (DD p2)), (90000, .box [.own 90001, .own 90002, .own 90003]), (90001, .vec 1 (p1.fd.map Ap)), (90002, .vec 1 (p1.fa.map Ap)), (90003, .vec 1 (p1.fe.map C8))]) (fun j1 h => ?_) (fun v1 h => ?_)
 ·refine Ai Az rfl (qm rfl (Xx rfl (qf Br rfl (ql A1 rfl (qf Fm rfl (ql BW rfl ?_))))))
  refine BT h fun v2 a2 b2 h => qI Ax Da a2 (Ae b2) rfl (qj BW (Ae b2) rfl (ET rfl (qm rfl ?_)))
  refine Ec 18 h rfl (fun h => ?_) fun h => ?_
  ·refine qw 11 rfl (qp rfl (AK (by kernel_rfl) ?_))
   exact sn [] h
  ·refine qm rfl (Xx rfl (qf CE rfl (ql A1 rfl (qf Fm rfl (ql BW rfl ?_)))))
   refine BT h fun v4 a4 b4 h => qI Ax Da a4 (Ae b4) rfl (qj BW (Ae b4) rfl (qf Hi rfl (ql BW rfl (BX rfl (qp rfl (AK (by kernel_rfl) ?_))))))
   exact sn [] h
 ·refine Bd h (fun h => ?_) fun h => ?_
  ·refine wq rfl (qe rfl ?_)
   obtain rfl := sj h
   refine Af (sm [] [(6, bD false)] [(90000, .box [.own 90001, .own 90002, .own 90003]), (90001, .vec 1 (p1.fd.map Ap)), (90002, .vec 1 (p1.fa.map Ap)), (90003, .vec 1 (p1.fe.map C8))] rfl rfl) (Au ?_)
   exact ⟨⟨[_], tm, rfl⟩, ⟨rfl, rfl, rfl, rfl, tv⟩, tv⟩
  ·refine Al (wq rfl (qm rfl (Xx rfl (qf Br rfl (ql A1 rfl (qf Fm rfl (ql BW rfl (qf Hi rfl (ql BW rfl ?_)))))))))
   refine BT h fun v6 a6 b6 h => qI Ax Da a6 (Ae b6) rfl ?_
   refine EH rfl rfl rfl rfl (Ae b6) rfl Da rfl (Ig rfl) (Ej Ap p1.fa _ p2.fp) ?_
   refine AK (by kernel_rfl) (wp rfl (qf BU rfl (ql Gi rfl (AJ Dc rfl (qm rfl (Ac ?_))))))
   refine AH (L := D0 N p0 p2) h (fun v7 => mk [(1, oD (.ptr 90000 0)), (5, oD (.ptr 5 0)), (41, pD (.sl (p0.fc.map AQ))), (42, iD ((p0.fc.length : Int))), (43, iD v7.2)] [(5, .box (DD p2)), (90000, .box [.own 90001, .own 90002, .own 90003]), (90001, .vec 1 (p1.fd.map Ap)), (90002, .vec 1 ((p1.fa.set ((p2.fj).toNat) p2.fp).map Ap)), (90003, .vec 1 (v7.1.map C8))]) (fun v8 => mk [] [(90000, .box [.own 90001, .own 90002, .own 90003]), (90001, .vec 1 (p1.fd.map Ap)), (90002, .vec 1 ((p1.fa.set ((p2.fj).toNat) p2.fp).map Ap)), (90003, .vec 1 (v8.map C8))]) (fun _ _ => rfl) (sm [] _ _ rfl rfl) (fun j7 n7 v7 h => ?_) (fun v8 s h hs => ?_)
   ·unfold D0 at h
    refine wq rfl (AT rfl (Ac (AN ?_)))
    refine Bd h (fun h => ?_) fun h => ?_
    ·refine Al ?_
     refine AR h (fun v10 => mk [(1, oD (.ptr 90000 0)), (5, oD (.ptr 5 0)), (41, pD (.sl (p0.fc.map AQ))), (42, iD ((p0.fc.length : Int))), (43, iD v7.2)] [(5, .box (DD p2)), (90000, .box [.own 90001, .own 90002, .own 90003]), (90001, .vec 1 (p1.fd.map Ap)), (90002, .vec 1 ((p1.fa.set ((p2.fj).toNat) p2.fp).map Ap)), (90003, .vec 1 (v10.map C8))]) (fun j10 h => ?_) (fun v10 h => ?_)
     ·refine AL (wq rfl (qm rfl ?_))
      refine BT h fun v11 a11 b11 h => qi Dc DR a11 (Ae b11) rfl (qK HT DR rfl (qz Kb rfl (qa rfl (qs DR rfl (Ac ?_)))))
      refine AR h (fun v12 => mk [(1, oD (.ptr 90000 0)), (5, oD (.ptr 5 0)), (7, iD v7.2), (41, pD (.sl (p0.fc.map AQ))), (42, iD ((p0.fc.length : Int))), (43, iD v7.2), (56, bD v12)] [(5, .box (DD p2)), (90000, .box [.own 90001, .own 90002, .own 90003]), (90001, .vec 1 (p1.fd.map Ap)), (90002, .vec 1 ((p1.fa.set ((p2.fj).toNat) p2.fp).map Ap)), (90003, .vec 1 (v7.1.map C8))]) (fun j12 h => ?_) (fun v12 h => ?_)
      ·refine Ai Az rfl (qf Dk rfl (ql BW rfl (qf Fm rfl (ql BW rfl (BX rfl (qm rfl ?_))))))
       refine Ec 53 h rfl (fun h => ?_) fun h => ?_
       ·refine qL HT DR rfl ?_
        refine BY h fun v14 a14 h => Ay [] (LM N v11 v14 a14) YS rfl (qp rfl (Ac ?_))
        exact sn [] h
       ·refine qw 2 rfl (qp rfl (Ac ?_))
        exact sn [] h
      ·refine Bd h (fun h => ?_) fun h => ?_
       ·refine Ai Az rfl (qm rfl (Xx rfl (qf CI rfl (ql Hg rfl (qm rfl ?_)))))
        refine BT h fun v16 a16 b16 h => qI Dj F3 a16 (Ae b16) rfl (qj Kc (Ae b16) rfl (qf Hi rfl (ql BW rfl ?_)))
        refine Gf h fun c17 h => Jq rfl c17 (WB rfl ?_)
        refine BT h fun v18 a18 b18 h => qI Dj F3 a18 (Ae b18) rfl ?_
        refine EH rfl rfl rfl rfl (Ae b18) rfl F3 rfl (Ig rfl) (Ej C8 v7.1 _ ((Pw .u8 v16 ((Ee .u8 1 p2.fp))))) ?_
        refine AK (by kernel_rfl) ?_
        exact sn [] h
       ·refine Al ?_
        exact sn [] h
     ·refine Ai Az rfl (AZ rfl (qm rfl (Ac ?_)))
      exact sn [] h
    ·refine AS ?_
     exact sn [] h
   ·refine Af hs (wq rfl (qe rfl ?_))
    obtain rfl := sj h
    refine Af (sm [] [(6, bD true)] [(90000, .box [.own 90001, .own 90002, .own 90003]), (90001, .vec 1 (p1.fd.map Ap)), (90002, .vec 1 ((p1.fa.set ((p2.fj).toNat) p2.fp).map Ap)), (90003, .vec 1 (v8.map C8))] rfl rfl) (Au ?_)
    exact ⟨⟨[_], tm, rfl⟩, ⟨rfl, rfl, rfl, rfl, tv⟩, tv⟩
theorem Pr (N : Nat) (p0 : Ab) (p1 : Int) (r : Int) (h : Gk N p0 p1 = some r) : Av zA0 157 [.e (.agg (AB p0)), iD p1] [] (pD (.val (.int .u8 r))) := by
 unfold Gk at h
 refine cw (n := 27) (rs := [.tmp 4]) Tryz.func157 fun w0 S0 => ?_
 refine wq rfl (qb rfl (qa rfl (Ac (wq rfl (qf CE rfl (ql A1 rfl (qm rfl ?_)))))))
 refine BT h fun v1 a1 b1 h => qi Ax Da a1 (Ae b1) rfl (qk BW rfl ?_)
 refine Gf h fun c2 h => Jq rfl c2 (qe rfl ?_)
 refine AR h (fun v3 => mk [(5, pD (.val (.int .u8 v3)))] []) (fun j3 h => ?_) (fun v3 h => ?_)
 ·refine wq rfl (qf Br rfl (ql A1 rfl (qm rfl ?_)))
  refine BT h fun v4 a4 b4 h => qi Ax Da a4 (Ae b4) rfl (qk BW rfl (ET rfl (Ac ?_)))
  refine Bd h (fun h => ?_) fun h => ?_
  ·refine Ai Az rfl (qm rfl (qf Br rfl (ql A1 rfl (qm rfl ?_))))
   refine BT h fun v6 a6 b6 h => qi Ax Da a6 (Ae b6) rfl (qk BW rfl ?_)
   refine Gf h fun c7 h => Jq rfl c7 (WB rfl (qe rfl ?_))
   exact sn [] h
  ·refine Al ?_
   exact sn [] h
 ·refine wq rfl (qm rfl (qe rfl ?_))
  obtain rfl := sj h
  refine Af (sm [] [(4, pD (.val (.int .u8 v3)))] [] rfl rfl) (Au ?_)
  exact ⟨⟨[_], tm, rfl⟩, tv⟩
theorem I7 (N : Nat) (p0 : Int) (r : Int) (h : C4 N p0 = some r) : Av zA0 169 [pD (.val (.int .u8 p0))] [] (iD r) := by
 unfold C4 at h
 refine cw (n := 6) (rs := [.tmp 2]) Tryz.func169 fun w0 S0 => ?_
 refine wq rfl (qa rfl (Ac (wq rfl (qm rfl ?_))))
 refine BY h fun v1 a1 h => UU (.p rfl) rfl rfl Z2 a1 ?_
 refine Jk ZU Yh rfl (qe rfl ?_)
 obtain rfl := sj h
 refine Af (sm [] [(2, iD ((wI .i64 v1)))] [] rfl rfl) (Au ?_)
 exact ⟨⟨[_], tm, rfl⟩, tv⟩
theorem MO (N : Nat) (p0 : An) (p1 : Int) (p2 : Int) (r : Bool) (h : F6 N p0 p1 p2 = some r) : Av zA0 158 [.e (.agg (Be p0)), pD (.val (.int .u8 p1)), iD p2] [] (bD r) := by
 unfold F6 at h
 refine cw (n := 25) (rs := [.tmp 6]) Tryz.func158 fun w0 S0 => ?_
 refine wq rfl (qb rfl (qa rfl (Ac (wp rfl (qm rfl (qe rfl ?_))))))
 refine AH (L := DN N p0 p2) h (fun v1 => mk [(2, iD p2), (3, oD (.ptr 3 0)), (7, pD (.val (.int .u8 v1)))] [(3, .box (Be p0))]) (fun v2 => mk [] []) (fun _ _ => rfl) (sm [] _ _ rfl rfl) (fun j1 n1 v1 h => ?_) (fun v2 s h hs => ?_)
 ·unfold DN at h
  refine wp rfl (qm rfl (BZ rfl (Ac ?_)))
  refine Bd h (fun h => ?_) fun h => ?_
  ·refine Al (AN (AL (wq rfl (qf GI rfl (ql Jl rfl (qm rfl ?_))))))
   refine BY h fun v4 a4 h => Ay [] (I7 N v1 v4 a4) bG rfl ?_
   refine BT h fun v5 a5 b5 h => qi Fo La a5 (Ae b5) rfl (qk Od rfl (qm rfl ?_))
   refine BT h fun v6 a6 b6 h => qi FZ PQ a6 (Ae b6) rfl (qk Td rfl (CF rfl (AK (by kernel_rfl) ?_)))
   refine Bd h (fun h => ?_) fun h => ?_
   ·refine wq rfl (qe rfl ?_)
    obtain rfl := sj h
    refine Af (sm [] [(6, bD false)] [] rfl rfl) (Au ?_)
    exact ⟨⟨[_], tm, rfl⟩, tv⟩
   ·refine Al (Ai Az rfl (qw 2 rfl (Qa rfl (NH rfl (qe rfl ?_)))))
    exact sn [] h
  ·refine AS ?_
   exact sn [] h
 ·refine Af hs (wq rfl (qe rfl ?_))
  obtain rfl := sj h
  refine Af (sm [] [(6, bD true)] [] rfl rfl) (Au ?_)
  exact ⟨⟨[_], tm, rfl⟩, tv⟩
theorem Rr (N : Nat) (p0 : Aa) (p1 : Ab) (p2 : Int) (r : Bool × (List Int)) (h : GZ N p0 p1 p2 = some r) : Dy zA0 125 [.e (.agg (Ag p0)), oD (.ptr 90000 0), iD p2] [(.box [.own 90001, .own 90002, .own 90003], .box [.own 90001, .own 90002, .own 90003]), (.vec 1 (p1.fd.map Ap), .vec 1 (p1.fd.map Ap)), (.vec 1 (p1.fa.map Ap), .vec 1 (p1.fa.map Ap)), (.vec 1 (p1.fe.map C8), .vec 1 (r.2.map C8))] [] (bD r.1) := by
 unfold GZ at h
 refine Fi (n := 68) (rs := [.tmp 6]) Tryz.func125 rfl rfl rfl (Ig rfl) (Ig rfl) rfl rfl (Ig rfl) rfl (Ig rfl) fun w0 S0 GL => ?_
 refine Af (sm [] [(0, .e (.agg (Ag p0))), (1, oD (.ptr 90000 0)), (2, iD p2)] [(90000, .box [.own 90001, .own 90002, .own 90003]), (90001, .vec 1 (p1.fd.map Ap)), (90002, .vec 1 (p1.fa.map Ap)), (90003, .vec 1 (p1.fe.map C8))] rfl rfl) (wq rfl (qb rfl (qa rfl (Ac (wq rfl (qf BU rfl (ql Gi rfl (qm rfl ?_))))))))
 refine BT h fun v1 a1 b1 h => qi Dc DR a1 (Ae b1) rfl (qK HT DR rfl (qz Kb rfl (qs DR rfl (Ac (wp rfl (qL HT DR rfl ?_))))))
 refine BY h fun v2 a2 h => Ay [] (LM N v1 v2 a2) YS rfl (CF rfl (Ac ?_))
 refine Bd h (fun h => ?_) fun h => ?_
 ·refine wq rfl (qe rfl ?_)
  obtain rfl := sj h
  refine Af (sm [] [(6, bD false)] [(90000, .box [.own 90001, .own 90002, .own 90003]), (90001, .vec 1 (p1.fd.map Ap)), (90002, .vec 1 (p1.fa.map Ap)), (90003, .vec 1 (p1.fe.map C8))] rfl rfl) (Au ?_)
  exact ⟨⟨[_], tm, rfl⟩, ⟨rfl, rfl, rfl, rfl, tv⟩, tv⟩
 ·refine Al (wq rfl (qm rfl (Xx rfl (qL A0 AF rfl (qf Dk rfl (ql BW rfl ?_))))))
  refine BY h fun v4 a4 h => Dl [] [90001, 90002, 90003] (Pr N p1 v1.fg v4 a4) Z6 BV rfl (qa rfl (AK (by kernel_rfl) (wq rfl (qm rfl (Xx rfl (qf CI rfl (ql Hg rfl (qm rfl ?_))))))))
  refine BT h fun v5 a5 b5 h => qI Dj F3 a5 (Ae b5) rfl (qj Kc (Ae b5) rfl (qm rfl (Jf rfl (qa rfl (Ac (AN ?_))))))
  refine AR h (fun v6 => mk [(1, oD (.ptr 90000 0)), (2, iD p2), (8, pD (.val (.int .u8 v4))), (60, bD v6)] [(90000, .box [.own 90001, .own 90002, .own 90003]), (90001, .vec 1 (p1.fd.map Ap)), (90002, .vec 1 (p1.fa.map Ap)), (90003, .vec 1 (p1.fe.map C8))]) (fun j6 h => ?_) (fun v6 h => ?_)
  ·refine Ai Az rfl (qm rfl (Xx rfl (qf CI rfl (ql Hg rfl (qm rfl ?_)))))
   refine BT h fun v7 a7 b7 h => qI Dj F3 a7 (Ae b7) rfl (qj Kc (Ae b7) rfl (qm rfl (BX rfl (qm rfl ?_))))
   refine Ec 42 h rfl (fun h => ?_) fun h => ?_
   ·refine qw 4 rfl (qu rfl (qu rfl (qu rfl (qu rfl (qu rfl (qu rfl (qu rfl (qu rfl (qu rfl (qu rfl (qu rfl (qu rfl (qn rfl (qp rfl (AK (by kernel_rfl) ?_)))))))))))))))
    exact sn [] h
   ·refine qf F8 rfl (ql BW rfl (BX rfl (qm rfl ?_)))
    refine Ec 46 h rfl (fun h => ?_) fun h => ?_
    ·refine qL HT DR rfl (qw 2 rfl (Xx rfl (qf CE rfl (ql A1 rfl (qf Dk rfl (ql BW rfl ?_))))))
     refine BT h fun v10 a10 b10 h => qI Ax Da a10 (Ae b10) rfl (qj BW (Ae b10) rfl ?_)
     refine BY h fun v11 a11 h => Ay [] (MO N v1 ((DC .u8 v5 v4)) v10 v11 a11) aI rfl (CF rfl (qp rfl (qp rfl (AK (by kernel_rfl) ?_))))
     exact sn [] h
    ·refine qw 12 rfl (qp rfl (qp rfl (AK (by kernel_rfl) ?_)))
     exact sn [] h
  ·refine Bd h (fun h => ?_) fun h => ?_
   ·refine wq rfl (qe rfl ?_)
    obtain rfl := sj h
    refine Af (sm [] [(6, bD false)] [(90000, .box [.own 90001, .own 90002, .own 90003]), (90001, .vec 1 (p1.fd.map Ap)), (90002, .vec 1 (p1.fa.map Ap)), (90003, .vec 1 (p1.fe.map C8))] rfl rfl) (Au ?_)
    exact ⟨⟨[_], tm, rfl⟩, ⟨rfl, rfl, rfl, rfl, tv⟩, tv⟩
   ·refine Al (wq rfl (qm rfl (Xx rfl (qf CI rfl (ql Hg rfl (qw 2 rfl ?_))))))
    refine BT h fun v13 a13 b13 h => qI Dj F3 a13 (Ae b13) rfl ?_
    refine EH rfl rfl rfl rfl (Ae b13) rfl F3 rfl (Ig rfl) (Ej C8 p1.fe _ v4) ?_
    refine Ac (wq rfl (qe rfl ?_))
    obtain rfl := sj h
    refine Af (sm [] [(6, bD true)] [(90000, .box [.own 90001, .own 90002, .own 90003]), (90001, .vec 1 (p1.fd.map Ap)), (90002, .vec 1 (p1.fa.map Ap)), (90003, .vec 1 ((p1.fe.set ((p2).toNat) v4).map C8))] rfl rfl) (Au ?_)
    exact ⟨⟨[_], tm, rfl⟩, ⟨rfl, rfl, rfl, rfl, tv⟩, tv⟩
theorem Mr (N : Nat) (p0 : Aa) (p1 : Ab) (p2 : Ah) (r : Ab × Bool) (h : FQ N p0 p1 p2 = some r) : Av zA0 97 [.e (.agg (Ag p0)), .e (.agg (AB p1)), .e (.agg (DD p2))] [(1, r.1.fd.map Ap), (1, r.1.fa.map Ap), (1, r.1.fe.map C8)] (.tup [.agg [.own 0, .own 1, .own 2], .one (.pure (.val (.bool r.2)))]) := by
 unfold FQ at h
 refine cw (n := 51) (rs := [.cell 6 46, .tmp 7]) Tryz.func97 fun w0 S0 => ?_
 refine wq rfl (qb rfl (qb rfl (qb rfl (qz Ci rfl (qa rfl (Ac (wq rfl (qL A0 AF rfl ?_))))))))
 refine BY h fun v1 a1 h => Ay [2001, 2002, 2003] (PS N p1 v1 a1) ad rfl (qz Ci rfl (qs AF rfl (Ac (wp rfl (qf F4 rfl (ql BW rfl (Ac (AL (wq rfl (BX rfl (qe rfl ?_)))))))))))
 refine Bd h (fun h => ?_) fun h => ?_
 ·refine wq rfl (qL A0 AF rfl (qL C0 Cx rfl (qL IJ E8 rfl ?_)))
  refine BY h fun v3 a3 h => H9 (ds0 := [_, _, _]) [8, 2001, 2002, 2003] [] [false, false, true, true] (QO N p0 v1 p2 v3 a3) (.p rfl) aS rfl ⟨rfl, rfl, rfl, tv⟩ rfl rfl (by decide) ⟨rfl, rfl, rfl, rfl, tv⟩ rfl (E9 rfl) tv ⟨(fun _ => rfl), (fun _ => rfl), (fun h => by cases h), (fun h => by cases h), tv⟩ rfl rfl rfl ?_
  refine qs AF rfl (qa rfl (AK (by kernel_rfl) ?_))
  obtain rfl := sj h
  refine Af (sm [(1000, 2001), (1001, 2002), (1002, 2003)] [(6, oD (.ptr 6 0)), (7, bD v3.1)] [(6, .box [.own 1000, .own 1001, .own 1002]), (1000, .vec 1 (v1.fd.map Ap)), (1001, .vec 1 (v3.2.1.map Ap)), (1002, .vec 1 (v3.2.2.map C8))] rfl rfl) (Au ?_)
  exact ⟨⟨[_, _], ⟨.cellN _ _ _ _ _ _ _ rfl rfl A0 AF rfl rfl (ID rfl), tm⟩, rfl⟩, ⟨rfl, rfl, rfl, tv⟩⟩
 ·refine wq rfl (BX rfl (qe rfl ?_))
  refine Bd h (fun h => ?_) fun h => ?_
  ·refine wq rfl (qL A0 AF rfl (qL C0 Cx rfl (qf Fm rfl (ql BW rfl ?_))))
   refine BY h fun v5 a5 h => H9 (ds0 := [_, _, _]) [8, 2001, 2002, 2003] [] [false, false, false, true] (Rr N p0 v1 p2.fj v5 a5) (.p rfl) bC rfl ⟨rfl, rfl, rfl, tv⟩ rfl rfl (by decide) ⟨rfl, rfl, rfl, rfl, tv⟩ rfl (E9 rfl) tv ⟨(fun _ => rfl), (fun _ => rfl), (fun _ => rfl), (fun h => by cases h), tv⟩ rfl rfl rfl ?_
   refine qs AF rfl (qa rfl (AK (by kernel_rfl) ?_))
   obtain rfl := sj h
   refine Af (sm [(1000, 2001), (1001, 2002), (1002, 2003)] [(6, oD (.ptr 6 0)), (7, bD v5.1)] [(6, .box [.own 1000, .own 1001, .own 1002]), (1000, .vec 1 (v1.fd.map Ap)), (1001, .vec 1 (v1.fa.map Ap)), (1002, .vec 1 (v5.2.map C8))] rfl rfl) (Au ?_)
   exact ⟨⟨[_, _], ⟨.cellN _ _ _ _ _ _ _ rfl rfl A0 AF rfl rfl (ID rfl), tm⟩, rfl⟩, ⟨rfl, rfl, rfl, tv⟩⟩
  ·refine Al (wq rfl (qf Br rfl (ql A1 rfl (qf Fm rfl (ql BW rfl ?_)))))
   refine BT h fun v6 a6 b6 h => qI Ax Da a6 (Ae b6) rfl (qj BW (Ae b6) rfl (qa rfl (Ac (wp rfl (qm rfl (AT rfl (Ac ?_)))))))
   refine Bd h (fun h => ?_) fun h => ?_
   ·refine wq rfl (qL A0 AF rfl (qs AF rfl (qe rfl ?_)))
    obtain rfl := sj h
    refine Af (sm [(1000, 2001), (1001, 2002), (1002, 2003)] [(6, oD (.ptr 6 0)), (7, bD false)] [(6, .box [.own 1000, .own 1001, .own 1002]), (1000, .vec 1 (v1.fd.map Ap)), (1001, .vec 1 (v1.fa.map Ap)), (1002, .vec 1 (v1.fe.map C8))] rfl rfl) (Au ?_)
    exact ⟨⟨[_, _], ⟨.cellN _ _ _ _ _ _ _ rfl rfl A0 AF rfl rfl (ID rfl), tm⟩, rfl⟩, ⟨rfl, rfl, rfl, tv⟩⟩
   ·refine Al (wq rfl (qf Br rfl (ql A1 rfl (qf Fm rfl (ql BW rfl ?_)))))
    refine BT h fun v8 a8 b8 h => qI Ax Da a8 (Ae b8) rfl ?_
    refine EH rfl rfl rfl rfl (Ae b8) rfl Da rfl (Ig rfl) (Ej Ap v1.fa _ ((-1))) ?_
    refine Ac ?_
    refine AR h (fun v9 => mk [(6, oD (.ptr 6 0)), (8, oD (.ptr 8 0))] [(6, .box [.pure (.nil0), .pure (.nil0), .pure (.nil0)]), (8, .box [.own 2004, .own 2005, .own 2006]), (2004, .vec 1 (v9.map Ap)), (2005, .vec 1 ((v1.fa.set ((p2.fj).toNat) ((-1))).map Ap)), (2006, .vec 1 (v1.fe.map C8))]) (fun j9 h => ?_) (fun v9 h => ?_)
    ·refine wq rfl (qf F4 rfl (ql BW rfl (BX rfl (Ac ?_))))
     refine Bd h (fun h => ?_) fun h => ?_
     ·refine Ai Az rfl (qf CE rfl (ql A1 rfl (qf Fm rfl (ql BW rfl (qm rfl ?_)))))
      refine BT h fun v11 a11 b11 h => qI Ax Da a11 (Ae b11) rfl ?_
      refine EH rfl rfl rfl rfl (Ae b11) rfl Da rfl (Ig rfl) (Ej Ap v1.fd _ v6) ?_
      refine Ac ?_
      exact sn [(2004, 2001), (2005, 2002), (2006, 2003)] h
     ·refine Al ?_
      exact sn [(2004, 2001), (2005, 2002), (2006, 2003)] h
    ·refine wq rfl (qL A0 AF rfl (qs AF rfl (qe rfl ?_)))
     obtain rfl := sj h
     refine Af (sm [(1000, 2004), (1001, 2005), (1002, 2006)] [(6, oD (.ptr 6 0)), (7, bD true)] [(6, .box [.own 1000, .own 1001, .own 1002]), (1000, .vec 1 (v9.map Ap)), (1001, .vec 1 ((v1.fa.set ((p2.fj).toNat) ((-1))).map Ap)), (1002, .vec 1 (v1.fe.map C8))] rfl rfl) (Au ?_)
     exact ⟨⟨[_, _], ⟨.cellN _ _ _ _ _ _ _ rfl rfl A0 AF rfl rfl (ID rfl), tm⟩, rfl⟩, ⟨rfl, rfl, rfl, tv⟩⟩
theorem M1 (N : Nat) (p0 : Ah) (p1 : List Int) (p2 : List Int) (p3 : List Int) (p4 : List An) (p5 : List Int) (p6 : List Int) (p7 : List Int) (r : Bool) (h : DK N p0 p1 p2 p3 p4 p5 p6 p7 = some r) : Av zA0 96 [.e (.agg (DD p0)), oD (.rop [.sl (p1.map Ap), .sl (p2.map Ap), .sl (p3.map Ap), .sl (p4.map AQ)]), oD (.rop [.sl (p5.map Ap), .sl (p6.map Ap), .sl (p7.map C8)])] [] (bD r) := by
 unfold DK at h
 refine cw (n := 16) (rs := [.tmp 4]) Tryz.func96 fun w0 S0 => ?_
 refine wq rfl (qb rfl (qa rfl (Ac (wq rfl (qK C0 Cx rfl (qK A0 AF rfl (qL IJ E8 rfl ?_)))))))
 refine BY h fun v1 a1 h => Ay [2001, 2002, 2003] (Mr N ((Aa.mk p1 p2 p3 p4)) ((Ab.mk p5 p6 p7)) p0 v1 a1) aG rfl (qm rfl (qx rfl (qx rfl (qz Ci rfl (qs AF rfl (qa rfl (Ac (wq rfl (qm rfl (CF rfl (qe rfl ?_)))))))))))
 obtain rfl := sj h
 refine Af (sm [] [(4, bD ((!v1.2)))] [] rfl rfl) (Au ?_)
 exact ⟨⟨[_], tm, rfl⟩, tv⟩
theorem GY (N : Nat) (p0 : List Ah) (p1 : Ah → Option Bool) (r : Int) (h : BQ N p0 p1 = some r) : Av zA0 122 [pD (.sl (p0.map AM)), oD (.clo (HJ (Nw true AM) tB p1))] [] (iD r) := by
 unfold BQ at h
 refine cw (n := 19) (rs := [.tmp 4]) Tryz.func122 fun w0 S0 => ?_
 refine wq rfl (qa rfl (Ac (wp rfl (qm rfl (AJ Fj rfl (qm rfl (Ac ?_)))))))
 refine AH (L := AY N p0 p1) h (fun v1 => mk [(0, pD (.sl (p0.map AM))), (1, oD (.clo (HJ (Nw true AM) tB p1))), (7, iD ((p0.length : Int))), (8, iD v1)] []) (fun v2 => mk [] []) (fun _ _ => rfl) (sm [] _ _ rfl rfl) (fun j1 n1 v1 h => ?_) (fun v2 s h hs => ?_)
 ·unfold AY at h
  refine wq rfl (AT rfl (Ac (AN ?_)))
  refine Bd h (fun h => ?_) fun h => ?_
  ·refine Al (AN (AL (wq rfl (qm rfl (qa rfl (Ac (wq rfl (qw 3 rfl ?_))))))))
   refine BT h fun v4 a4 b4 h => qi Fj E8 a4 (Ae b4) rfl (qK IJ E8 rfl ?_)
   refine BY h fun v5 a5 h => J8 (ds0 := [_]) (ar := (Nw true AM) v4) (.p rfl) rfl rfl ⟨rfl, tv⟩ rfl rfl rfl (Jy (MR _ _ OI) a5) ?_
   refine Ac ?_
   refine Bd h (fun h => ?_) fun h => ?_
   ·refine wq rfl (qm rfl (qe rfl ?_))
    obtain rfl := sj h
    refine Af (sm [] [(4, iD v1)] [] rfl rfl) (Au ?_)
    exact ⟨⟨[_], tm, rfl⟩, tv⟩
   ·refine Al (Ai Az rfl (AZ rfl (qm rfl (Ac ?_))))
    exact sn [] h
  ·refine AS ?_
   exact sn [] h
 ·refine Af hs (wq rfl (qe rfl ?_))
  obtain rfl := sj h
  refine Af (sm [] [(4, iD ((-1)))] [] rfl rfl) (Au ?_)
  exact ⟨⟨[_], tm, rfl⟩, tv⟩
theorem GS (N : Nat) (p0 : List Ah) (p1 : Ah → Option Bool) (r : Nat × (List Ah)) (h : BP N p0 p1 = some r) : Dy zA0 94 [oD (.own 90000), oD (.clo (HJ (Nw true AM) tB p1))] [(.vec 3 (p0.map AM), .vec 3 (r.2.map AM))] [] (oD (.view 90000 3 0 r.1)) := by
 unfold BP at h
 refine Fi (n := 42) (rs := [.tmp 4]) Tryz.func94 rfl rfl rfl (Ig rfl) (Ig rfl) rfl rfl (Ig rfl) rfl (Ig rfl) fun w0 S0 GL => ?_
 refine Af (sm [] [(0, oD (.own 90000)), (1, oD (.clo (HJ (Nw true AM) tB p1)))] [(90000, .vec 3 (p0.map AM))] rfl rfl) (wq rfl (qa rfl (Ac (wq rfl (qw 2 rfl ?_)))))
 refine BY h fun v1 a1 h => Dl [] [90000] (GY N p0 p1 v1 a1) ag BV rfl (qa rfl (Ac (wp rfl (qm rfl (BX rfl (Ac ?_))))))
 refine Bd h (fun h => ?_) fun h => ?_
 ·refine wq rfl (qm rfl (qe rfl ?_))
  obtain rfl := sj h
  refine Af ((Q5 AM p0 4 90000 3 rfl rfl).trans (sm [] [(4, oD (.view 90000 3 0 p0.length))] [(90000, .vec 3 (p0.map AM))] rfl rfl)) (Au ?_)
  exact ⟨⟨[_], tm, rfl⟩, ⟨rfl, tv⟩, tv⟩
 ·refine Al (wp rfl (qm rfl (AZ rfl (qe rfl ?_))))
  refine AH (L := AV N p1) h (fun v3 => mk [(0, oD (.own 90000)), (1, oD (.clo (HJ (Nw true AM) tB p1))), (5, iD v3.2.1), (6, iD v3.2.2)] [(90000, .vec 3 (v3.1.map AM))]) (fun v4 => mk [(0, oD (.own 90000)), (5, iD v4.2)] [(90000, .vec 3 (v4.1.map AM))]) (fun _ _ => rfl) (sm [] _ _ rfl rfl) (fun j3 n3 v3 h => ?_) (fun v4 s h hs => ?_)
  ·unfold AV at h
   refine wp rfl (qw 2 rfl (DQ Fj rfl (AT rfl (Ac ?_))))
   refine Bd h (fun h => ?_) fun h => ?_
   ·refine Al ?_
    refine AR h (fun v6 => mk [(0, oD (.own 90000)), (1, oD (.clo (HJ (Nw true AM) tB p1))), (5, iD v6.2), (6, iD v3.2.2)] [(90000, .vec 3 (v6.1.map AM))]) (fun j6 h => ?_) (fun v6 h => ?_)
    ·refine AL (wq rfl (qw 2 rfl ?_))
     refine BT h fun v7 a7 b7 h => qI Fj E8 a7 (Ae b7) rfl (qJ IJ E8 (Ae b7) rfl (qz JE rfl (qs E8 rfl (Ac (wq rfl (qm rfl (qL IJ E8 rfl ?_)))))))
     refine BY h fun v8 a8 h => J8 (ds0 := [_]) (ar := (Nw true AM) v7) (.p rfl) rfl rfl ⟨rfl, tv⟩ rfl rfl rfl (Jy (MR _ _ OI) a8) ?_
     refine CF rfl (Ac ?_)
     refine Bd h (fun h => ?_) fun h => ?_
     ·refine wq rfl (qw 2 rfl (qL IJ E8 rfl ?_))
      refine BT h fun v10 a10 b10 h => qI Fj E8 a10 (Ae b10) rfl ?_
      refine EH rfl rfl rfl rfl (Ae b10) rfl E8 rfl (Ig rfl) (Ej AM v3.1 _ v7) ?_
      refine Ac (Ai Az rfl (qm rfl (AZ rfl (qe rfl ?_))))
      exact sn [] h
     ·refine Al ?_
      exact sn [] h
    ·refine Ai Az rfl (qm rfl (AZ rfl (qe rfl ?_)))
     exact sn [] h
   ·refine AS ?_
    exact sn [] h
  ·refine Af hs (wq rfl (qw 2 rfl ?_))
   obtain ⟨c11, h⟩ := GE h
   have w12 : ((v4.2).toNat) + ((v4.1.length - (v4.2).toNat)) ≤ v4.1.length := by have := c11.2.1; have := c11.2.2; omega
   refine Jb AM v4.1 (.p rfl) rfl (Iu AM _ _ v4.1) rfl Fj E8 (.some _ _ _ _ c11.1) (.none _) ⟨rfl, tv⟩ tv c11.2.1 (by rw [zA1]; exact c11.2.2) (zA1 _) rfl ?_
   have w13 : (HY v4.1 ((v4.2).toNat) (zA2 ((v4.1.length - (v4.2).toNat)) ((Ah.mk 0 0 0)))).length = v4.1.length := Jc (by rw [List.length_replicate]; exact w12)
   refine RO AM v4.1 ((Ah.mk 0 0 0)) rfl rfl (Nl AM _ _ ((v4.2).toNat) ((v4.1.length - (v4.2).toNat)) v4.1 w12) rfl Fj JE rfl rfl rfl rfl ?_
   refine Ac (wq rfl (qw 2 rfl ?_))
   obtain ⟨c14, h⟩ := GE h
   have w15 : 0 + ((v4.2).toNat) ≤ (HY v4.1 ((v4.2).toNat) (zA2 ((v4.1.length - (v4.2).toNat)) ((Ah.mk 0 0 0)))).length := by have := c14.2.1; have := c14.2.2; omega
   refine Jb AM (HY v4.1 ((v4.2).toNat) (zA2 ((v4.1.length - (v4.2).toNat)) ((Ah.mk 0 0 0)))) (.p rfl) rfl (Iu AM _ _ (HY v4.1 ((v4.2).toNat) (zA2 ((v4.1.length - (v4.2).toNat)) ((Ah.mk 0 0 0))))) rfl Fj E8 (.none _) (.some _ _ _ _ c14.1) tv ⟨rfl, tv⟩ c14.2.1 (by rw [zA1]; exact c14.2.2) (zA1 _) rfl ?_
   refine qa rfl (Ac ?_)
   obtain rfl := sj h
   refine Af (sm [] [(4, oD (.view 90000 3 0 ((v4.2).toNat)))] [(90000, .vec 3 ((HY v4.1 ((v4.2).toNat) (zA2 ((v4.1.length - (v4.2).toNat)) ((Ah.mk 0 0 0)))).map AM))] rfl rfl) (Au ?_)
   exact ⟨⟨[_], tm, rfl⟩, ⟨rfl, tv⟩, tv⟩
theorem I3 (N : Nat) (p0 : Aa) (p1 : Ab) (r : (List Ah) × Int) (h : DV N p0 p1 = some r) : Av zA0 48 [.e (.agg (Ag p0)), .e (.agg (AB p1))] [(3, r.1.map AM)] (.tup [.one (.own 0), .one (iC r.2)]) := by
 unfold DV at h
 refine cw (n := 17) (rs := [.tmp 4, .tmp 5]) Tryz.func48 fun w0 S0 => ?_
 refine wq rfl (qb rfl (qb rfl (qa rfl (qa rfl (Ac (wp rfl (qL C0 Cx rfl (qL A0 AF rfl ?_))))))))
 refine BY h fun v1 a1 h => Ay [] (Io N p0 p1 v1 a1) WR rfl (qa rfl (Ac (wq rfl (qm rfl (BZ rfl (Ac ?_))))))
 refine Bd h (fun h => ?_) fun h => ?_
 ·refine wq rfl (qm rfl (qa rfl (qe rfl ?_)))
  obtain rfl := sj h
  refine Af ((Ba 4 2001 3 rfl rfl rfl).trans (sm [(1000, 2001)] [(4, oD (.own 1000)), (5, iD v1)] [(1000, .vec 3 ((([] : List Ah)).map AM))] rfl rfl)) (Au ?_)
  exact ⟨⟨[_, _], ⟨.tmp _ _ rfl, tm⟩, rfl⟩, ⟨rfl, tv⟩⟩
 ·refine Al (wq rfl (qL C0 Cx rfl ?_))
  refine BY h fun v3 a3 h => Ay [2002] (TY N p0 v3 a3) bQ rfl (Dh (KG 2 [.sl (p0.fb.map Ap), .sl (p0.fh.map Ap), .sl (p0.fi.map Ap), .sl (p0.fc.map AQ)] rfl rfl) (Dh (KG 3 [.sl (p1.fd.map Ap), .sl (p1.fa.map Ap), .sl (p1.fe.map C8)] rfl rfl) ?_))
  refine J9 (capD := [_, _]) (HJ (Nw true AM) tB ((fun (x : Ah) => DK N x p0.fb p0.fh p0.fi p0.fc p1.fd p1.fa p1.fe))) (.p rfl) bR rfl ⟨rfl, rfl, tv⟩ rfl (fun ar t ht => by obtain ⟨x, r, rfl, hq, rfl⟩ := Hx ht; exact M1 N x p0.fb p0.fh p0.fi p0.fc p1.fd p1.fa p1.fe r hq) ?_
  obtain ⟨v4, a4, h⟩ := bind_some h
  obtain ⟨c5, h⟩ := GE h
  have w6 : 0 + v4.1 ≤ v4.2.length := by rw [zA1]; exact c5
  refine H9 (ds0 := [_, _]) [2002] [] [true] (GS N v3 ((fun (x : Ah) => DK N x p0.fb p0.fh p0.fi p0.fc p1.fd p1.fa p1.fe)) v4 a4) (.p rfl) cc rfl ⟨rfl, rfl, tv⟩ rfl rfl (by decide) ⟨rfl, tv⟩ rfl (E9 rfl) tv ⟨(fun h => by cases h), tv⟩ rfl rfl rfl ?_
  refine Dh (Vz AM v4.2 16 2002 2003 3 v4.1 rfl rfl rfl rfl rfl c5) (qa rfl (qe rfl ?_))
  obtain rfl := sj h
  refine Af (sm [(1000, 2003)] [(4, oD (.own 1000)), (5, iD 0)] [(1000, .vec 3 ((v4.2.take v4.1).map AM))] rfl rfl) (Au ?_)
  exact ⟨⟨[_, _], ⟨.tmp _ _ rfl, tm⟩, rfl⟩, ⟨rfl, tv⟩⟩
theorem Rc (N : Nat) (p0 : Ah) (r : Bool) (h : G5 N p0 = some r) : Av zA0 126 [.e (.agg (DD p0))] [] (bD r) := by
 unfold G5 at h
 refine cw (n := 27) (rs := [.tmp 2]) Tryz.func126 fun w0 S0 => ?_
 refine wq rfl (qb rfl (qa rfl (Ac (AN ?_))))
 refine AR h (fun v1 => mk [(1, oD (.ptr 1 0)), (18, bD v1)] [(1, .box (DD p0))]) (fun j1 h => ?_) (fun v1 h => ?_)
 ·refine Ai Az rfl (qf Fm rfl (ql BW rfl (qf Hi rfl (ql BW rfl ?_))))
  refine aW (.p rfl) rfl rfl ?_
  refine AT rfl (qm rfl ?_)
  refine Ec 9 h rfl (fun h => ?_) fun h => ?_
  ·refine qw 3 rfl (qp rfl (qw 4 rfl (qp rfl (Ac ?_))))
   exact sn [] h
  ·refine qf F4 rfl (ql BW rfl (AT rfl (qp rfl (qm rfl ?_))))
   refine Ec 14 h rfl (fun h => ?_) fun h => ?_
   ·refine qw 3 rfl (qp rfl (Ac ?_))
    exact sn [] h
   ·refine qf F4 rfl (ql BW rfl (Gt rfl (qp rfl (Ac ?_))))
    exact sn [] h
 ·refine Bd h (fun h => ?_) fun h => ?_
  ·refine wq rfl (qe rfl ?_)
   obtain rfl := sj h
   refine Af (sm [] [(2, bD false)] [] rfl rfl) (Au ?_)
   exact ⟨⟨[_], tm, rfl⟩, tv⟩
  ·refine Al ?_
   refine AR h (fun v5 => mk [(2, bD v5)] []) (fun j5 h => ?_) (fun v5 h => ?_)
   ·refine Ai Az rfl (qf F4 rfl (ql BW rfl (BX rfl (qm rfl ?_))))
    refine Ec 22 h rfl (fun h => ?_) fun h => ?_
    ·refine qw 3 rfl (qp rfl (qe rfl ?_))
     exact sn [] h
    ·refine qf Hi rfl (ql BW rfl (BX rfl (qp rfl (qe rfl ?_))))
     exact sn [] h
   ·obtain rfl := sj h
    refine Af (sm [] [(2, bD v5)] [] rfl rfl) (Au ?_)
    exact ⟨⟨[_], tm, rfl⟩, tv⟩
theorem PP (N : Nat) (p0 : Aa) (p1 : Ah) (r : Bool) (h : GC N p0 p1 = some r) : Av zA0 127 [.e (.agg (Ag p0)), .e (.agg (DD p1))] [] (bD r) := by
 unfold GC at h
 refine cw (n := 36) (rs := [.tmp 4]) Tryz.func127 fun w0 S0 => ?_
 refine wq rfl (qb rfl (qb rfl (qa rfl (Ac (wp rfl (qf F4 rfl (ql BW rfl (BX rfl (Ac ?_)))))))))
 refine Bd h (fun h => ?_) fun h => ?_
 ·refine wq rfl (qf Fm rfl (ql BW rfl (qf BU rfl (ql Gi rfl (AJ Dc rfl (AT rfl (qe rfl ?_)))))))
  obtain rfl := sj h
  refine Af (sm [] [(4, bD ((decide (p1.fj < (p0.fc.length : Int)))))] [] rfl rfl) (Au ?_)
  exact ⟨⟨[_], tm, rfl⟩, tv⟩
 ·refine Al ?_
  refine AR h (fun v2 => mk [(4, bD v2)] []) (fun j2 h => ?_) (fun v2 h => ?_)
  ·refine Ai Az rfl (qf Fm rfl (ql BW rfl (qf Bv rfl (ql A1 rfl (AJ Ax rfl (AT rfl (qm rfl ?_)))))))
   refine Ec 20 h rfl (fun h => ?_) fun h => ?_
   ·refine qf F4 rfl (ql BW rfl (BZ rfl (qm rfl ?_)))
    refine Ec 24 h rfl (fun h => ?_) fun h => ?_
    ·refine qw 9 rfl (qp rfl (qp rfl (qa rfl (AK (by kernel_rfl) ?_))))
     exact sn [] h
    ·refine qf Hi rfl (ql BW rfl (qf Bv rfl (ql A1 rfl (qf Fm rfl (ql BW rfl ?_)))))
     refine BT h fun v5 a5 b5 h => qi Ax Da a5 (Ae b5) rfl (qk BW rfl (AT rfl (qp rfl (qp rfl (qa rfl (AK (by kernel_rfl) ?_))))))
     exact sn [] h
   ·refine qw 4 rfl (qu rfl (qu rfl (qu rfl (qu rfl (qu rfl (qu rfl (qu rfl (qu rfl (qu rfl (qn rfl (qp rfl (qa rfl (AK (by kernel_rfl) ?_)))))))))))))
    exact sn [] h
  ·obtain rfl := sj h
   refine Af (sm [] [(4, bD v2)] [] rfl rfl) (Au ?_)
   exact ⟨⟨[_], tm, rfl⟩, tv⟩
theorem Rw (N : Nat) (p0 : Aa) (p1 : Ab) (p2 : Ah) (r : Ab × Int) (h : Hf N p0 p1 p2 = some r) : Av zA0 98 [.e (.agg (Ag p0)), .e (.agg (AB p1)), .e (.agg (DD p2))] [(1, r.1.fd.map Ap), (1, r.1.fa.map Ap), (1, r.1.fe.map C8)] (.tup [.agg [.own 0, .own 1, .own 2], .one (iC r.2)]) := by
 unfold Hf at h
 refine cw (n := 32) (rs := [.cell 6 46, .tmp 7]) Tryz.func98 fun w0 S0 => ?_
 refine wq rfl (qb rfl (qb rfl (qb rfl (qz Ci rfl (qa rfl (Ac (AN (AL (wq rfl (qL IJ E8 rfl ?_))))))))))
 refine BY h fun v1 a1 h => Ay [] (Rc N p2 v1 a1) bJ rfl (CF rfl (qe rfl ?_))
 refine Bd h (fun h => ?_) fun h => ?_
 ·refine wq rfl (A9 Ci Hn rfl (qs AF rfl (qe rfl ?_)))
  obtain rfl := sj h
  refine Af ((As 6 0 2001 1 _ rfl rfl rfl rfl).trans ((As 6 1 2002 1 _ rfl rfl rfl rfl).trans ((As 6 2 2003 1 _ rfl rfl rfl rfl).trans (sm [(1000, 2001), (1001, 2002), (1002, 2003)] [(6, oD (.ptr 6 0)), (7, iD 1)] [(6, .box [.own 1000, .own 1001, .own 1002]), (1000, .vec 1 ((([] : List Int)).map Ap)), (1001, .vec 1 ((([] : List Int)).map Ap)), (1002, .vec 1 ((([] : List Int)).map C8))] rfl rfl)))) (Au ?_)
  exact ⟨⟨[_, _], ⟨.cellN _ _ _ _ _ _ _ rfl rfl A0 AF rfl rfl (ID rfl), tm⟩, rfl⟩, ⟨rfl, rfl, rfl, tv⟩⟩
 ·refine wq rfl (qL C0 Cx rfl (qL IJ E8 rfl ?_))
  refine BY h fun v3 a3 h => Ay [] (PP N p0 p2 v3 a3) bu rfl (CF rfl (qe rfl ?_))
  refine Bd h (fun h => ?_) fun h => ?_
  ·refine wq rfl (A9 Ci Hn rfl (qs AF rfl (qe rfl ?_)))
   obtain rfl := sj h
   refine Af ((As 6 0 2004 1 _ rfl rfl rfl rfl).trans ((As 6 1 2005 1 _ rfl rfl rfl rfl).trans ((As 6 2 2006 1 _ rfl rfl rfl rfl).trans (sm [(1000, 2004), (1001, 2005), (1002, 2006)] [(6, oD (.ptr 6 0)), (7, iD 4)] [(6, .box [.own 1000, .own 1001, .own 1002]), (1000, .vec 1 ((([] : List Int)).map Ap)), (1001, .vec 1 ((([] : List Int)).map Ap)), (1002, .vec 1 ((([] : List Int)).map C8))] rfl rfl)))) (Au ?_)
   exact ⟨⟨[_, _], ⟨.cellN _ _ _ _ _ _ _ rfl rfl A0 AF rfl rfl (ID rfl), tm⟩, rfl⟩, ⟨rfl, rfl, rfl, tv⟩⟩
  ·refine Al (wq rfl (qL C0 Cx rfl (qL A0 AF rfl (qL IJ E8 rfl ?_))))
   refine BY h fun v5 a5 h => Ay [2007, 2008, 2009] (Mr N p0 p1 p2 v5 a5) aG rfl (qm rfl (qx rfl (qx rfl (qz Ci rfl (qs AF rfl (qa rfl (Ac (wp rfl (qm rfl (CF rfl (Ac ?_)))))))))))
   refine Bd h (fun h => ?_) fun h => ?_
   ·refine wq rfl (A9 Ci Hn rfl (qs AF rfl (qe rfl ?_)))
    obtain rfl := sj h
    refine Af ((As 6 0 2010 1 _ rfl rfl rfl rfl).trans ((As 6 1 2011 1 _ rfl rfl rfl rfl).trans ((As 6 2 2012 1 _ rfl rfl rfl rfl).trans (sm [(1000, 2010), (1001, 2011), (1002, 2012)] [(6, oD (.ptr 6 0)), (7, iD 11)] [(6, .box [.own 1000, .own 1001, .own 1002]), (1000, .vec 1 ((([] : List Int)).map Ap)), (1001, .vec 1 ((([] : List Int)).map Ap)), (1002, .vec 1 ((([] : List Int)).map C8))] rfl rfl)))) (Au ?_)
    exact ⟨⟨[_, _], ⟨.cellN _ _ _ _ _ _ _ rfl rfl A0 AF rfl rfl (ID rfl), tm⟩, rfl⟩, ⟨rfl, rfl, rfl, tv⟩⟩
   ·refine Al (wq rfl (qL A0 AF rfl (qs AF rfl (qe rfl ?_))))
    obtain rfl := sj h
    refine Af (sm [(1000, 2007), (1001, 2008), (1002, 2009)] [(6, oD (.ptr 6 0)), (7, iD 0)] [(6, .box [.own 1000, .own 1001, .own 1002]), (1000, .vec 1 (v5.1.fd.map Ap)), (1001, .vec 1 (v5.1.fa.map Ap)), (1002, .vec 1 (v5.1.fe.map C8))] rfl rfl) (Au ?_)
    exact ⟨⟨[_, _], ⟨.cellN _ _ _ _ _ _ _ rfl rfl A0 AF rfl rfl (ID rfl), tm⟩, rfl⟩, ⟨rfl, rfl, rfl, tv⟩⟩
theorem Kj (N : Nat) (p0 : Aa) (p1 : Ab) (p2 : Ah) (r : Ab × Int) (h : FG N p0 p1 p2 = some r) : Av zA0 49 [.e (.agg (Ag p0)), .e (.agg (AB p1)), .e (.agg (DD p2))] [(1, r.1.fd.map Ap), (1, r.1.fa.map Ap), (1, r.1.fe.map C8)] (.tup [.agg [.own 0, .own 1, .own 2], .one (iC r.2)]) := by
 unfold FG at h
 refine cw (n := 22) (rs := [.cell 6 46, .tmp 7]) Tryz.func49 fun w0 S0 => ?_
 refine wq rfl (qb rfl (qb rfl (qb rfl (qz Ci rfl (qa rfl (Ac (wp rfl (qL C0 Cx rfl (qL A0 AF rfl ?_)))))))))
 refine BY h fun v1 a1 h => Ay [] (Io N p0 p1 v1 a1) WR rfl (qa rfl (Ac (wq rfl (qm rfl (BZ rfl (Ac ?_))))))
 refine Bd h (fun h => ?_) fun h => ?_
 ·refine wq rfl (A9 Ci Hn rfl (qm rfl (qs AF rfl (qe rfl ?_))))
  obtain rfl := sj h
  refine Af ((As 6 0 2001 1 _ rfl rfl rfl rfl).trans ((As 6 1 2002 1 _ rfl rfl rfl rfl).trans ((As 6 2 2003 1 _ rfl rfl rfl rfl).trans (sm [(1000, 2001), (1001, 2002), (1002, 2003)] [(6, oD (.ptr 6 0)), (7, iD v1)] [(6, .box [.own 1000, .own 1001, .own 1002]), (1000, .vec 1 ((([] : List Int)).map Ap)), (1001, .vec 1 ((([] : List Int)).map Ap)), (1002, .vec 1 ((([] : List Int)).map C8))] rfl rfl)))) (Au ?_)
  exact ⟨⟨[_, _], ⟨.cellN _ _ _ _ _ _ _ rfl rfl A0 AF rfl rfl (ID rfl), tm⟩, rfl⟩, ⟨rfl, rfl, rfl, tv⟩⟩
 ·refine Al (wq rfl (qL C0 Cx rfl (qL A0 AF rfl (qL IJ E8 rfl ?_))))
  refine BY h fun v3 a3 h => Ay [2004, 2005, 2006] (Rw N p0 p1 p2 v3 a3) cp rfl (qx rfl (qx rfl (qs AF rfl (qe rfl ?_))))
  obtain rfl := sj h
  refine Af (sm [(1000, 2004), (1001, 2005), (1002, 2006)] [(6, oD (.ptr 6 0)), (7, iD v3.2)] [(6, .box [.own 1000, .own 1001, .own 1002]), (1000, .vec 1 (v3.1.fd.map Ap)), (1001, .vec 1 (v3.1.fa.map Ap)), (1002, .vec 1 (v3.1.fe.map C8))] rfl rfl) (Au ?_)
  exact ⟨⟨[_, _], ⟨.cellN _ _ _ _ _ _ _ rfl rfl A0 AF rfl rfl (ID rfl), tm⟩, rfl⟩, ⟨rfl, rfl, rfl, tv⟩⟩
theorem Rp (N : Nat) (p0 : Aa) (p1 : Ab) (r : (List Ah) × (List Ab)) (h : Hb N p0 p1 = some r) : Av zA0 85 [.e (.agg (Ag p0)), .e (.agg (AB p1))] [(3, r.1.map AM), (3, r.2.map Ar)] (.tup [.one (.own 0), .one (.own 1)]) := by
 unfold Hb at h
 refine cw (n := 55) (rs := [.tmp 4, .tmp 5]) Tryz.func85 fun w0 S0 => ?_
 refine wq rfl (qb rfl (qb rfl (qa rfl (qa rfl (Ac (wq rfl (qa rfl (Ac (wq rfl (qa rfl (Ac (wq rfl (qL C0 Cx rfl (qL A0 AF rfl ?_))))))))))))))
 refine BY h fun v1 a1 h => Ay [2001] (I3 N p0 p1 v1 a1) Za rfl (qm rfl (qx rfl (qx rfl (qa rfl (qa rfl (Ac (wp rfl (qm rfl (DQ Fj rfl (qm rfl (Ac ?_)))))))))))
 refine AH (L := Fe N p0 p1 v1) h (fun v2 => mk [(2, oD (.ptr 2 0)), (3, oD (.ptr 3 0)), (6, oD (.own 2002)), (7, oD (.own 2003)), (22, oD (.own 2004)), (23, iD ((v1.1.length : Int))), (24, iD v2.2.2)] [(2, .box (Ag p0)), (3, .box (AB p1)), (2002, .vec 3 (v2.1.map AM)), (2003, .vec 3 (v2.2.1.map Ar)), (2004, .vec 3 (v1.1.map AM))]) (fun v3 => mk [(6, oD (.own 2005)), (7, oD (.own 2006))] [(2005, .vec 3 (v3.1.map AM)), (2006, .vec 3 (v3.2.map Ar))]) (fun _ _ => rfl) ((Ba 6 2013 3 rfl rfl rfl).trans ((Ba 7 2014 3 rfl rfl rfl).trans (sm [(2002, 2013), (2003, 2014), (2004, 2001)] _ _ rfl rfl))) (fun j2 n2 v2 h => ?_) (fun v3 s h hs => ?_)
 ·unfold Fe at h
  refine wq rfl (AT rfl (Ac (AN ?_)))
  refine Bd h (fun h => ?_) fun h => ?_
  ·refine Al ?_
   refine AR h (fun v5 => mk [(2, oD (.ptr 2 0)), (3, oD (.ptr 3 0)), (6, oD (.own 2007)), (7, oD (.own 2008)), (22, oD (.own 2009)), (23, iD ((v1.1.length : Int))), (24, iD v2.2.2)] [(2, .box (Ag p0)), (3, .box (AB p1)), (2007, .vec 3 (v5.1.map AM)), (2008, .vec 3 (v5.2.map Ar)), (2009, .vec 3 (v1.1.map AM))]) (fun j5 h => ?_) (fun v5 h => ?_)
   ·refine AL (wq rfl ?_)
    refine BT h fun v6 a6 b6 h => qI Fj E8 a6 (Ae b6) rfl (qJ IJ E8 (Ae b6) rfl (qz JE rfl (qs E8 rfl (Ac (wq rfl (qL C0 Cx rfl (qL A0 AF rfl (qL IJ E8 rfl ?_))))))))
    refine BY h fun v7 a7 h => Ay [2010, 2011, 2012] (Kj N p0 p1 v6 v7 a7) Zs rfl (qm rfl (qx rfl (qx rfl (qz Ci rfl (qs AF rfl (qa rfl (Ac (wp rfl (qm rfl (BZ rfl (Ac ?_)))))))))))
    refine Bd h (fun h => ?_) fun h => ?_
    ·refine AS ?_
     exact sn [(2007, 2002), (2008, 2003), (2009, 2004)] h
    ·refine Al (wq rfl (qL C0 Cx rfl (qL A0 AF rfl ?_)))
     refine BY h fun v9 a9 h => Dl [] [2010, 2011, 2012] (HD N p0 v7.1 v9 a9) WT BV rfl (qm rfl (qx rfl (qx rfl (qa rfl (qa rfl (Ac (wq rfl (qm rfl (Ac ?_)))))))))
     refine Bd h (fun h => ?_) fun h => ?_
     ·refine Af (AW 2010 _ _ rfl rfl) (Af (AW 2011 _ _ rfl rfl) (Af (AW 2012 _ _ rfl rfl) (Ai Az rfl (qm rfl (qL IJ E8 rfl (DI Fj E8 JE rfl ?_))))))
      refine Gf h fun c11 h => DH (f := AM) Fj Fj E8 SO JE c11 rfl (qm rfl (qL A0 AF rfl (DI BB AF Ci rfl ?_)))
      refine Gf h fun c12 h => DH (f := Ar) BB BB AF NT Ci c12 rfl (qa rfl (qa rfl (AK (by kernel_rfl) ?_)))
      exact sn [(2007, 47), (2008, 51), (2009, 2004)] h
     ·refine Al ?_
      exact sn [(2007, 2002), (2008, 2003), (2009, 2004)] h
   ·refine Ai Az rfl (AZ rfl (qm rfl (Ac ?_)))
    exact sn [(2002, 2007), (2003, 2008), (2004, 2009)] h
  ·refine AS ?_
   exact sn [(2005, 2002), (2006, 2003)] h
 ·refine Af hs (wq rfl (qw 2 rfl (qa rfl (qe rfl ?_))))
  obtain rfl := sj h
  refine Af (sm [(1000, 2005), (1001, 2006)] [(4, oD (.own 1000)), (5, oD (.own 1001))] [(1000, .vec 3 (v3.1.map AM)), (1001, .vec 3 (v3.2.map Ar))] rfl rfl) (Au ?_)
  exact ⟨⟨[_, _], ⟨.tmp _ _ rfl, tm⟩, rfl⟩, ⟨rfl, rfl, tv⟩⟩
def ZH : Go.Shelf.Ren := ⟨fun | 6 => 86 | 14 => 118 | 15 => 105 | 20 => 145 | 21 => 146 | 22 => 147 | 23 => 148 | 24 => 149 | 25 => 150 | 26 => 151 | 27 => 152 | 28 => 140 | 29 => 141 | 46 => 166 | 47 => 162 | 48 => 163 | 49 => 167 | 50 => 168 | 57 => 172 | n => n, fun | 0 => 0 | 3 => 3 | 4 => 4 | 5 => 5 | 9 => 9 | 22 => 30 | 24 => 46 | 25 => 92 | 39 => 152 | 45 => 172 | 46 => 173 | 50 => 122 | 53 => 179 | 55 => 181 | 66 => 195 | 70 => 199 | 76 => 205 | 77 => 206 | n => n, fun n => n⟩
theorem Y7 : SlLaysF0.n6 zA0 ZH := { mixed := Az, f6 := ⟨Tryz.f86.name, by decide, Tryz.func86.trans (congrArg some (by kernel_rfl))⟩, f14 := ⟨Tryz.f118.name, by decide, Tryz.func118.trans (congrArg some (by kernel_rfl))⟩, f15 := Tryz.func105.trans (congrArg some (by kernel_rfl)), f20 := ⟨Tryz.f145.name, by decide, Tryz.func145.trans (congrArg some (by kernel_rfl))⟩, f21 := ⟨Tryz.f146.name, by decide, Tryz.func146.trans (congrArg some (by kernel_rfl))⟩, f22 := ⟨Tryz.f147.name, by decide, Tryz.func147.trans (congrArg some (by kernel_rfl))⟩, f23 := ⟨Tryz.f148.name, by decide, Tryz.func148.trans (congrArg some (by kernel_rfl))⟩, f24 := ⟨Tryz.f149.name, by decide, Tryz.func149.trans (congrArg some (by kernel_rfl))⟩, f25 := ⟨Tryz.f150.name, by decide, Tryz.func150.trans (congrArg some (by kernel_rfl))⟩, f26 := ⟨Tryz.f151.name, by decide, Tryz.func151.trans (congrArg some (by kernel_rfl))⟩, f27 := ⟨Tryz.f152.name, by decide, Tryz.func152.trans (congrArg some (by kernel_rfl))⟩, f28 := Tryz.func140.trans (congrArg some (by kernel_rfl)), f29 := Tryz.func141.trans (congrArg some (by kernel_rfl)), f46 := ⟨Tryz.f166.name, by decide, Tryz.func166.trans (congrArg some (by kernel_rfl))⟩, f47 := Tryz.func162.trans (congrArg some (by kernel_rfl)), f48 := Tryz.func163.trans (congrArg some (by kernel_rfl)), f49 := ⟨Tryz.f167.name, by decide, Tryz.func167.trans (congrArg some (by kernel_rfl))⟩, f50 := ⟨Tryz.f168.name, by decide, Tryz.func168.trans (congrArg some (by kernel_rfl))⟩, f57 := ⟨Tryz.f172.name, by decide, Tryz.func172.trans (congrArg some (by kernel_rfl))⟩, t0 := Tryz.underlying0, a0 := Tryz.isAgg0, z0 := Tryz.sizeOf0, v0 := Tryz.zeroValue0, t3 := Tryz.underlying3, a3 := Tryz.isAgg3, z3 := Tryz.sizeOf3, v3 := Tryz.zeroValue3, t4 := Tryz.underlying4, a4 := Tryz.isAgg4, z4 := Tryz.sizeOf4, v4 := Tryz.zeroValue4, t5 := Tryz.underlying5, a5 := Tryz.isAgg5, z5 := Tryz.sizeOf5, v5 := Tryz.zeroValue5, t9 := Tryz.underlying9, a9 := Tryz.isAgg9, z9 := Tryz.sizeOf9, v9 := Tryz.zeroValue9, t22 := Tryz.underlying30, a22 := Tryz.isAgg30, z22 := Tryz.sizeOf30, v22 := Tryz.zeroValue30, t25 := Tryz.underlying92, a25 := Tryz.isAgg92, z25 := Tryz.sizeOf92, v25 := Tryz.zeroValue92, t39 := Tryz.underlying152, a39 := Tryz.isAgg152, z39 := Tryz.sizeOf152, v39 := Tryz.zeroValue152, t45 := Tryz.underlying172, a45 := Tryz.isAgg172, z45 := Tryz.sizeOf172, v45 := Tryz.zeroValue172, t46 := Tryz.underlying173, a46 := Tryz.isAgg173, z46 := Tryz.sizeOf173, v46 := Tryz.zeroValue173, t50 := Tryz.underlying122, a50 := Tryz.isAgg122, z50 := Tryz.sizeOf122, v50 := Tryz.zeroValue122, t53 := Tryz.underlying179, a53 := Tryz.isAgg179, z53 := Tryz.sizeOf179, v53 := Tryz.zeroValue179, t55 := Tryz.underlying181, a55 := Tryz.isAgg181, z55 := Tryz.sizeOf181, v55 := Tryz.zeroValue181, t66 := Tryz.underlying195, a66 := Tryz.isAgg195, z66 := Tryz.sizeOf195, v66 := Tryz.zeroValue195, t70 := Tryz.underlying199, a70 := Tryz.isAgg199, z70 := Tryz.sizeOf199, v70 := Tryz.zeroValue199, t76 := Tryz.underlying205, a76 := Tryz.isAgg205, z76 := Tryz.sizeOf205, v76 := Tryz.zeroValue205, t77 := Tryz.underlying206, a77 := Tryz.isAgg206, z77 := Tryz.sizeOf206, v77 := Tryz.zeroValue206 }
theorem HA (N : Nat) (p0 : List Ab) (p1 : (Ab × Ab) → Option Int) (r : (List Ab)) (h : Ce N p0 p1 = some r) : Dy zA0 86 [oD (.own 90000), oD (.clo (HJ (Vm true Ar true Ar) Ws p1))] [(.vec 3 (p0.map Ar), .vec 3 (r.map Ar))] [] (.tup []) := T5 Y7 3 (Hu A0) (EB AF) IT (@R5) h
theorem Ky (N : Nat) (p0 : Int) (r : Bool) (h : Fb N p0 = some r) : Av zA0 106 [iD p0] [] (bD r) := by
 unfold Fb at h
 refine cw (n := 6) (rs := [.tmp 2]) Tryz.func106 fun w0 S0 => ?_
 refine wq rfl (qa rfl (Ac (wq rfl (qw 2 rfl (BZ rfl (qe rfl ?_))))))
 obtain rfl := sj h
 refine Af (sm [] [(2, bD ((p0 != p0)))] [] rfl rfl) (Au ?_)
 exact ⟨⟨[_], tm, rfl⟩, tv⟩
theorem Gw (N : Nat) (p0 : Int) (p1 : Int) (r : Int) (h : Cz N p0 p1 = some r) : Av zA0 62 [iD p0, iD p1] [] (iD r) := by
 unfold Cz at h
 refine cw (n := 20) (rs := [.tmp 4]) Tryz.func62 fun w0 S0 => ?_
 refine wq rfl (qa rfl (Ac (wq rfl (qm rfl ?_))))
 refine BY h fun v1 a1 h => Ay [] (Ky N p0 v1 a1) YV rfl (qa rfl (Ac (wq rfl (qm rfl ?_))))
 refine BY h fun v2 a2 h => Ay [] (Ky N p1 v2 a2) YV rfl (qa rfl (Ac (wp rfl (qm rfl (Ac ?_)))))
 refine Bd h (fun h => ?_) fun h => ?_
 ·refine wp rfl (qm rfl (Ac ?_))
  refine Bd h (fun h => ?_) fun h => ?_
  ·refine wq rfl (qe rfl ?_)
   obtain rfl := sj h
   refine Af (sm [] [(4, iD 0)] [] rfl rfl) (Au ?_)
   exact ⟨⟨[_], tm, rfl⟩, tv⟩
  ·refine Al (wq rfl (qe rfl ?_))
   obtain rfl := sj h
   refine Af (sm [] [(4, iD ((-1)))] [] rfl rfl) (Au ?_)
   exact ⟨⟨[_], tm, rfl⟩, tv⟩
 ·refine Al (wp rfl (qm rfl (Ac ?_)))
  refine Bd h (fun h => ?_) fun h => ?_
  ·refine wq rfl (qe rfl ?_)
   obtain rfl := sj h
   refine Af (sm [] [(4, iD 1)] [] rfl rfl) (Au ?_)
   exact ⟨⟨[_], tm, rfl⟩, tv⟩
  ·refine Al (wp rfl (qw 2 rfl (AT rfl (Ac ?_))))
   refine Bd h (fun h => ?_) fun h => ?_
   ·refine wq rfl (qe rfl ?_)
    obtain rfl := sj h
    refine Af (sm [] [(4, iD ((-1)))] [] rfl rfl) (Au ?_)
    exact ⟨⟨[_], tm, rfl⟩, tv⟩
   ·refine Al (wp rfl (qw 2 rfl (Gt rfl (Ac ?_))))
    refine Bd h (fun h => ?_) fun h => ?_
    ·refine wq rfl (qe rfl ?_)
     obtain rfl := sj h
     refine Af (sm [] [(4, iD 1)] [] rfl rfl) (Au ?_)
     exact ⟨⟨[_], tm, rfl⟩, tv⟩
    ·refine Al (wq rfl (qe rfl ?_))
     obtain rfl := sj h
     refine Af (sm [] [(4, iD 0)] [] rfl rfl) (Au ?_)
     exact ⟨⟨[_], tm, rfl⟩, tv⟩
theorem Ha (N : Nat) (p0 : List Int) (p1 : List Int) (r : Int) (h : CU N p0 p1 = some r) : Av zA0 92 [pD (.sl (p0.map Ap)), pD (.sl (p1.map Ap))] [] (iD r) := by
 unfold CU at h
 refine cw (n := 36) (rs := [.tmp 4]) Tryz.func92 fun w0 S0 => ?_
 refine wq rfl (qa rfl (Ac (wp rfl (qm rfl (AJ Ax rfl (qm rfl (Ac ?_)))))))
 refine AH (L := Cq N p0 p1) h (fun v1 => mk [(0, pD (.sl (p0.map Ap))), (1, pD (.sl (p1.map Ap))), (9, pD (.sl (p0.map Ap))), (10, iD ((p0.length : Int))), (11, iD v1)] []) (fun v2 => mk [(0, pD (.sl (p0.map Ap))), (1, pD (.sl (p1.map Ap)))] []) (fun _ _ => rfl) (sm [] _ _ rfl rfl) (fun j1 n1 v1 h => ?_) (fun v2 s h hs => ?_)
 ·unfold Cq at h
  refine wq rfl (AT rfl (Ac (AN ?_)))
  refine Bd h (fun h => ?_) fun h => ?_
  ·refine Al (AN (AL (wq rfl (qm rfl ?_))))
   refine BT h fun v4 a4 b4 h => qi Ax Da a4 (Ae b4) rfl (qk BW rfl (qa rfl (qa rfl (Ac (wp rfl (qw 2 rfl (AJ Ax rfl (ET rfl (Ac ?_)))))))))
   refine Bd h (fun h => ?_) fun h => ?_
   ·refine wq rfl (qe rfl ?_)
    obtain rfl := sj h
    refine Af (sm [] [(4, iD 1)] [] rfl rfl) (Au ?_)
    exact ⟨⟨[_], tm, rfl⟩, tv⟩
   ·refine Al (wq rfl (qw 2 rfl ?_))
    refine BT h fun v6 a6 b6 h => qi Ax Da a6 (Ae b6) rfl (qk BW rfl (qa rfl (Ac (wq rfl (qw 2 rfl ?_)))))
    refine BY h fun v7 a7 h => Ay [] (Gw N v4 v6 v7 a7) XN rfl (qa rfl (Ac (wq rfl (qm rfl (BZ rfl (Ac ?_))))))
    refine Bd h (fun h => ?_) fun h => ?_
    ·refine wq rfl (qm rfl (qe rfl ?_))
     obtain rfl := sj h
     refine Af (sm [] [(4, iD v7)] [] rfl rfl) (Au ?_)
     exact ⟨⟨[_], tm, rfl⟩, tv⟩
    ·refine Al (Ai Az rfl (AZ rfl (qm rfl (Ac ?_))))
     exact sn [] h
  ·refine AS ?_
   exact sn [] h
 ·refine Af hs (wp rfl (qm rfl (AJ Ax rfl (qm rfl (AJ Ax rfl (AT rfl (Ac ?_)))))))
  refine Bd h (fun h => ?_) fun h => ?_
  ·refine wq rfl (qe rfl ?_)
   obtain rfl := sj h
   refine Af (sm [] [(4, iD ((-1)))] [] rfl rfl) (Au ?_)
   exact ⟨⟨[_], tm, rfl⟩, tv⟩
  ·refine Al (wq rfl (qe rfl ?_))
   obtain rfl := sj h
   refine Af (sm [] [(4, iD 0)] [] rfl rfl) (Au ?_)
   exact ⟨⟨[_], tm, rfl⟩, tv⟩
theorem IE (N : Nat) (p0 : Int) (r : Bool) (h : EK N p0 = some r) : Av zA0 155 [pD (.val (.int .u8 p0))] [] (bD r) := by
 unfold EK at h
 refine cw (n := 6) (rs := [.tmp 2]) Tryz.func155 fun w0 S0 => ?_
 refine wq rfl (qa rfl (Ac (wq rfl (qw 2 rfl (BZ rfl (qe rfl ?_))))))
 obtain rfl := sj h
 refine Af (sm [] [(2, bD ((p0 != p0)))] [] rfl rfl) (Au ?_)
 exact ⟨⟨[_], tm, rfl⟩, tv⟩
theorem KC (N : Nat) (p0 : Int) (p1 : Int) (r : Int) (h : Ei N p0 p1 = some r) : Av zA0 121 [pD (.val (.int .u8 p0)), pD (.val (.int .u8 p1))] [] (iD r) := by
 unfold Ei at h
 refine cw (n := 20) (rs := [.tmp 4]) Tryz.func121 fun w0 S0 => ?_
 refine wq rfl (qa rfl (Ac (wq rfl (qm rfl ?_))))
 refine BY h fun v1 a1 h => Ay [] (IE N p0 v1 a1) YD rfl (qa rfl (Ac (wq rfl (qm rfl ?_))))
 refine BY h fun v2 a2 h => Ay [] (IE N p1 v2 a2) YD rfl (qa rfl (Ac (wp rfl (qm rfl (Ac ?_)))))
 refine Bd h (fun h => ?_) fun h => ?_
 ·refine wp rfl (qm rfl (Ac ?_))
  refine Bd h (fun h => ?_) fun h => ?_
  ·refine wq rfl (qe rfl ?_)
   obtain rfl := sj h
   refine Af (sm [] [(4, iD 0)] [] rfl rfl) (Au ?_)
   exact ⟨⟨[_], tm, rfl⟩, tv⟩
  ·refine Al (wq rfl (qe rfl ?_))
   obtain rfl := sj h
   refine Af (sm [] [(4, iD ((-1)))] [] rfl rfl) (Au ?_)
   exact ⟨⟨[_], tm, rfl⟩, tv⟩
 ·refine Al (wp rfl (qm rfl (Ac ?_)))
  refine Bd h (fun h => ?_) fun h => ?_
  ·refine wq rfl (qe rfl ?_)
   obtain rfl := sj h
   refine Af (sm [] [(4, iD 1)] [] rfl rfl) (Au ?_)
   exact ⟨⟨[_], tm, rfl⟩, tv⟩
  ·refine Al (wp rfl (qw 2 rfl (AT rfl (Ac ?_))))
   refine Bd h (fun h => ?_) fun h => ?_
   ·refine wq rfl (qe rfl ?_)
    obtain rfl := sj h
    refine Af (sm [] [(4, iD ((-1)))] [] rfl rfl) (Au ?_)
    exact ⟨⟨[_], tm, rfl⟩, tv⟩
   ·refine Al (wp rfl (qw 2 rfl (Gt rfl (Ac ?_))))
    refine Bd h (fun h => ?_) fun h => ?_
    ·refine wq rfl (qe rfl ?_)
     obtain rfl := sj h
     refine Af (sm [] [(4, iD 1)] [] rfl rfl) (Au ?_)
     exact ⟨⟨[_], tm, rfl⟩, tv⟩
    ·refine Al (wq rfl (qe rfl ?_))
     obtain rfl := sj h
     refine Af (sm [] [(4, iD 0)] [] rfl rfl) (Au ?_)
     exact ⟨⟨[_], tm, rfl⟩, tv⟩
theorem HM (N : Nat) (p0 : List Int) (p1 : List Int) (r : Int) (h : Co N p0 p1 = some r) : Av zA0 93 [pD (.sl (p0.map C8)), pD (.sl (p1.map C8))] [] (iD r) := by
 unfold Co at h
 refine cw (n := 36) (rs := [.tmp 4]) Tryz.func93 fun w0 S0 => ?_
 refine wq rfl (qa rfl (Ac (wp rfl (qm rfl (AJ Dj rfl (qm rfl (Ac ?_)))))))
 refine AH (L := Bu N p0 p1) h (fun v1 => mk [(0, pD (.sl (p0.map C8))), (1, pD (.sl (p1.map C8))), (9, pD (.sl (p0.map C8))), (10, iD ((p0.length : Int))), (11, iD v1)] []) (fun v2 => mk [(0, pD (.sl (p0.map C8))), (1, pD (.sl (p1.map C8)))] []) (fun _ _ => rfl) (sm [] _ _ rfl rfl) (fun j1 n1 v1 h => ?_) (fun v2 s h hs => ?_)
 ·unfold Bu at h
  refine wq rfl (AT rfl (Ac (AN ?_)))
  refine Bd h (fun h => ?_) fun h => ?_
  ·refine Al (AN (AL (wq rfl (qm rfl ?_))))
   refine BT h fun v4 a4 b4 h => qi Dj F3 a4 (Ae b4) rfl (qk Kc rfl (qa rfl (qa rfl (Ac (wp rfl (qw 2 rfl (AJ Dj rfl (ET rfl (Ac ?_)))))))))
   refine Bd h (fun h => ?_) fun h => ?_
   ·refine wq rfl (qe rfl ?_)
    obtain rfl := sj h
    refine Af (sm [] [(4, iD 1)] [] rfl rfl) (Au ?_)
    exact ⟨⟨[_], tm, rfl⟩, tv⟩
   ·refine Al (wq rfl (qw 2 rfl ?_))
    refine BT h fun v6 a6 b6 h => qi Dj F3 a6 (Ae b6) rfl (qk Kc rfl (qa rfl (Ac (wq rfl (qw 2 rfl ?_)))))
    refine BY h fun v7 a7 h => Ay [] (KC N v4 v6 v7 a7) bk rfl (qa rfl (Ac (wq rfl (qm rfl (BZ rfl (Ac ?_))))))
    refine Bd h (fun h => ?_) fun h => ?_
    ·refine wq rfl (qm rfl (qe rfl ?_))
     obtain rfl := sj h
     refine Af (sm [] [(4, iD v7)] [] rfl rfl) (Au ?_)
     exact ⟨⟨[_], tm, rfl⟩, tv⟩
    ·refine Al (Ai Az rfl (AZ rfl (qm rfl (Ac ?_))))
     exact sn [] h
  ·refine AS ?_
   exact sn [] h
 ·refine Af hs (wp rfl (qm rfl (AJ Dj rfl (qm rfl (AJ Dj rfl (AT rfl (Ac ?_)))))))
  refine Bd h (fun h => ?_) fun h => ?_
  ·refine wq rfl (qe rfl ?_)
   obtain rfl := sj h
   refine Af (sm [] [(4, iD ((-1)))] [] rfl rfl) (Au ?_)
   exact ⟨⟨[_], tm, rfl⟩, tv⟩
  ·refine Al (wq rfl (qe rfl ?_))
   obtain rfl := sj h
   refine Af (sm [] [(4, iD 0)] [] rfl rfl) (Au ?_)
   exact ⟨⟨[_], tm, rfl⟩, tv⟩
theorem Mx (N : Nat) (p0 : List Int) (r : Int) (h : Gl N p0 = some r) : Av zA0 61 [pD (.sl (p0.map Ap))] [] (iD r) := by
 unfold Gl at h
 refine cw (n := 18) (rs := [.tmp 2]) Tryz.func61 fun w0 S0 => ?_
 refine wq rfl (qa rfl (Ac (wq rfl (qa rfl (Ac (wp rfl (qm rfl (AJ Ax rfl (qm rfl (Ac ?_))))))))))
 refine AH (L := Fc N p0) h (fun v1 => mk [(3, iD 0), (6, pD (.sl (p0.map Ap))), (7, iD ((p0.length : Int))), (8, iD v1)] []) (fun v2 => mk [(3, iD 0)] []) (fun _ _ => rfl) (sm [] _ _ rfl rfl) (fun j1 n1 v1 h => ?_) (fun v2 s h hs => ?_)
 ·unfold Fc at h
  refine wq rfl (AT rfl (Ac (AN ?_)))
  refine Bd h (fun h => ?_) fun h => ?_
  ·refine Al (AN (AL (wq rfl ?_)))
   refine BT h fun v4 a4 b4 h => qi Ax Da a4 (Ae b4) rfl (qk BW rfl (qa rfl (Ac (wq rfl (qw 2 rfl (BZ rfl (Ac ?_)))))))
   refine Bd h (fun h => ?_) fun h => ?_
   ·refine wq rfl (qm rfl (qe rfl ?_))
    obtain rfl := sj h
    refine Af (sm [] [(2, iD v4)] [] rfl rfl) (Au ?_)
    exact ⟨⟨[_], tm, rfl⟩, tv⟩
   ·refine Al (Ai Az rfl (AZ rfl (qm rfl (Ac ?_))))
    exact sn [] h
  ·refine AS ?_
   exact sn [] h
 ·refine Af hs (wq rfl (qm rfl (qe rfl ?_)))
  obtain rfl := sj h
  refine Af (sm [] [(2, iD 0)] [] rfl rfl) (Au ?_)
  exact ⟨⟨[_], tm, rfl⟩, tv⟩
theorem JM (N : Nat) (p0 : Ab) (p1 : Ab) (r : Int) (h : CK N p0 p1 = some r) : Av zA0 46 [.e (.agg (AB p0)), .e (.agg (AB p1))] [] (iD r) := by
 unfold CK at h
 refine cw (n := 22) (rs := [.tmp 4]) Tryz.func46 fun w0 S0 => ?_
 refine wq rfl (qb rfl (qb rfl (qa rfl (Ac (wq rfl (qf CE rfl (ql A1 rfl (qf CE rfl (ql A1 rfl ?_)))))))))
 refine BY h fun v1 a1 h => Ay [] (Ha N p0.fd p1.fd v1 a1) bz rfl (qf Br rfl (ql A1 rfl (qf Br rfl (ql A1 rfl ?_))))
 refine BY h fun v2 a2 h => Ay [] (Ha N p0.fa p1.fa v2 a2) bz rfl (qf CI rfl (ql Hg rfl (qf CI rfl (ql Hg rfl ?_))))
 refine BY h fun v3 a3 h => Ay [] (HM N p0.fe p1.fe v3 a3) cS rfl (DI Ax Da JZ rfl ?_)
 refine BY h fun v4 a4 h => Dl [] [20] (Mx N (([v1, v2, v3] : List Int)) v4 a4) bh BV rfl (qa rfl (AK (by kernel_rfl) ?_))
 obtain rfl := sj h
 refine Af (sm [] [(4, iD v4)] [] rfl rfl) (Au ?_)
 exact ⟨⟨[_], tm, rfl⟩, tv⟩
theorem O7 (N : Nat) (p0 : Aa) (r : (List Ab) × Int) (h : E0 N p0 = some r) : Av zA0 40 [.e (.agg (Ag p0))] [(3, r.1.map Ar)] (.tup [.one (.own 0), .one (iC r.2)]) := by
 unfold E0 at h
 refine cw (n := 73) (rs := [.tmp 2, .tmp 3]) Tryz.func40 fun w0 S0 => ?_
 refine wq rfl (qb rfl (qa rfl (qa rfl (Ac (wq rfl (qL C0 Cx rfl ?_))))))
 refine BY h fun v1 a1 h => Ay [2001, 2002, 2003] (PE N p0 v1 a1) cg rfl (qm rfl (qx rfl (qx rfl (qx rfl (qz Ci rfl (qs AF rfl (qa rfl (qa rfl (Ac (AN ?_))))))))))
 refine AR h (fun v2 => mk [(1, oD (.ptr 1 0)), (4, oD (.ptr 4 0)), (6, iD v1.2.2), (25, bD v2)] [(1, .box (Ag p0)), (4, .box [.own 2004, .own 2005, .own 2006]), (2004, .vec 1 (v1.1.fd.map Ap)), (2005, .vec 1 (v1.1.fa.map Ap)), (2006, .vec 1 (v1.1.fe.map C8))]) (fun j2 h => ?_) (fun v2 h => ?_)
 ·refine Ai Az rfl (qm rfl (BZ rfl (qm rfl ?_)))
  refine Ec 22 h rfl (fun h => ?_) fun h => ?_
  ·refine qw 2 rfl (qp rfl (Ac ?_))
   exact sn [(2004, 2001), (2005, 2002), (2006, 2003)] h
  ·refine qm rfl (CF rfl (qp rfl (Ac ?_)))
   exact sn [(2004, 2001), (2005, 2002), (2006, 2003)] h
 ·refine Bd h (fun h => ?_) fun h => ?_
  ·refine wq rfl (qm rfl (qa rfl (qe rfl ?_)))
   obtain rfl := sj h
   refine Af ((Ba 2 2007 3 rfl rfl rfl).trans (sm [(1000, 2007)] [(2, oD (.own 1000)), (3, iD v1.2.2)] [(1000, .vec 3 ((([] : List Ab)).map Ar))] rfl rfl)) (Au ?_)
   exact ⟨⟨[_, _], ⟨.tmp _ _ rfl, tm⟩, rfl⟩, ⟨rfl, tv⟩⟩
  ·refine Al (wq rfl (qL A0 AF rfl (Dh (AW 2004 _ _ rfl rfl) (Dh (AW 2005 _ _ rfl rfl) (Dh (AW 2006 _ _ rfl rfl) (DI BB AF Ci rfl (qa rfl (Ac (wq rfl ?_)))))))))
   refine UP (.p rfl) rfl ?_
   refine qL A0 AF rfl ?_
   refine BY h fun v5 a5 h => Ay [] (K0 N v1.1 v5 a5) Zt rfl ?_
   refine RT (kv := Value.string) (vt := tB) (m := ([] : List (ByteArray × Bool))) (k := v5) (v := true) rfl (.inr rfl) rfl rfl rfl rfl (Nq Rd Zl) rfl ?_
   refine qm rfl (qa rfl (Ac (wp rfl (qe rfl ?_))))
   refine AH (L := DX N p0) h (fun v6 => mk [(1, oD (.ptr 1 0)), (7, oD (.own 2008)), (8, oD (.mref 2009)), (9, iD v6.2.2)] [(1, .box (Ag p0)), (2008, .vec 3 (v6.1.map Ar)), (2009, .mp (I9 Value.string tB v6.2.1))]) (fun v7 => mk [(7, oD (.own 2010))] [(2010, .vec 3 (v7.map Ar))]) (fun _ _ => rfl) (sm [(2008, 28), (2009, 29)] _ _ rfl rfl) (fun j6 n6 v6 h => ?_) (fun v7 s h hs => ?_)
   ·unfold DX at h
    refine wp rfl (qw 2 rfl (DQ BB rfl (AT rfl (Ac ?_))))
    refine Bd h (fun h => ?_) fun h => ?_
    ·refine Al (AN (AL (wq rfl (qL C0 Cx rfl (qw 2 rfl ?_)))))
     refine BT h fun v9 a9 b9 h => qI BB AF a9 (Ae b9) rfl (qJ A0 AF (Ae b9) rfl ?_)
     refine BY h fun v10 a10 h => Ay [2011, 2012] (Rp N p0 v9 v10 a10) cz rfl (qm rfl (qx rfl (qx rfl (qa rfl (qa rfl (AK (by kernel_rfl) (wp rfl (qm rfl (DQ BB rfl (qm rfl (Ac ?_)))))))))))
     refine AH (L := Eo N v10) h (fun v11 => mk [(1, oD (.ptr 1 0)), (7, oD (.own 2013)), (8, oD (.mref 2014)), (9, iD v6.2.2), (48, oD (.own 2015)), (49, iD ((v10.2.length : Int))), (50, iD v11.2.2)] [(1, .box (Ag p0)), (2013, .vec 3 (v11.1.map Ar)), (2014, .mp (I9 Value.string tB v11.2.1)), (2015, .vec 3 (v10.2.map Ar))]) (fun v12 => mk [(1, oD (.ptr 1 0)), (7, oD (.own 2016)), (8, oD (.mref 2017)), (9, iD v6.2.2)] [(1, .box (Ag p0)), (2016, .vec 3 (v12.1.map Ar)), (2017, .mp (I9 Value.string tB v12.2))]) (fun _ _ => rfl) (sm [(2013, 2008), (2014, 2009), (2015, 2012)] _ _ rfl rfl) (fun j11 n11 v11 h => ?_) (fun v12 s h hs => ?_)
     ·unfold Eo at h
      refine wq rfl (AT rfl (Ac (AN ?_)))
      refine Bd h (fun h => ?_) fun h => ?_
      ·refine Al ?_
       refine AR h (fun v14 => mk [(1, oD (.ptr 1 0)), (7, oD (.own 2018)), (8, oD (.mref 2019)), (9, iD v6.2.2), (48, oD (.own 2020)), (49, iD ((v10.2.length : Int))), (50, iD v11.2.2)] [(1, .box (Ag p0)), (2018, .vec 3 (v14.1.map Ar)), (2019, .mp (I9 Value.string tB v14.2)), (2020, .vec 3 (v10.2.map Ar))]) (fun j14 h => ?_) (fun v14 h => ?_)
       ·refine AL (wq rfl ?_)
        refine BT h fun v15 a15 b15 h => qI BB AF a15 (Ae b15) rfl (qJ A0 AF (Ae b15) rfl (qz Ci rfl (qs AF rfl (Ac (wq rfl (qm rfl (qL A0 AF rfl ?_)))))))
        refine BY h fun v16 a16 h => Ay [] (K0 N v15 v16 a16) Zt rfl ?_
        refine Wi (kv := Value.string) (vt := tB) (m := v11.2.1) (dv := false) (.p rfl) rfl rfl rfl (Nq Rd Zl) (by rw [Rd]; rfl) Wc rfl rfl rfl ?_
        refine CF rfl (Ac ?_)
        refine Bd h (fun h => ?_) fun h => ?_
        ·refine wq rfl (qm rfl (qL A0 AF rfl ?_))
         refine BY h fun v18 a18 h => Ay [] (K0 N v15 v18 a18) Zt rfl ?_
         refine RT (kv := Value.string) (vt := tB) (m := v11.2.1) (k := v18) (v := true) rfl (.inl rfl) rfl rfl rfl rfl (Nq Rd Zl) rfl ?_
         refine Ac (Ai Az rfl (qm rfl (qL A0 AF rfl (DI BB AF Ci rfl ?_))))
         refine Gf h fun c19 h => DH (f := Ar) BB BB AF NT Ci c19 rfl (qe rfl ?_)
         exact sn [(2018, 65), (2019, 2014), (2020, 2015)] h
        ·refine Al ?_
         exact sn [(2018, 2013), (2019, 2014), (2020, 2015)] h
       ·refine Ai Az rfl (AZ rfl (qm rfl (Ac ?_)))
        exact sn [(2013, 2018), (2014, 2019), (2015, 2020)] h
      ·refine AS ?_
       exact sn [(2016, 2013), (2017, 2014)] h
     ·refine Af hs (wq rfl (qm rfl (DQ BB rfl (Gt rfl (Ac ?_)))))
      refine Bd h (fun h => ?_) fun h => ?_
      ·refine wq rfl (qa rfl (qe rfl ?_))
       obtain rfl := sj h
       refine Af ((Ba 2 2021 3 rfl rfl rfl).trans (sm [(1000, 2021)] [(2, oD (.own 1000)), (3, iD 3)] [(1000, .vec 3 ((([] : List Ab)).map Ar))] rfl rfl)) (Au ?_)
       exact ⟨⟨[_, _], ⟨.tmp _ _ rfl, tm⟩, rfl⟩, ⟨rfl, tv⟩⟩
      ·refine Al (Ai Az rfl (qm rfl (AZ rfl (qe rfl ?_))))
       exact sn [(2008, 2016), (2009, 2017)] h
    ·refine AS ?_
     exact sn [(2010, 2008)] h
   ·refine Af hs (wq rfl (qm rfl ?_))
    refine BY h fun v21 a21 h => H9 (ds0 := [_, _]) [2010] [] [true] (Dy.weak (ds' := [_, oD (.fnc 46)]) (HA N v7 ((fun (x : Ab × Ab) => CK N x.1 x.2)) v21 a21) ⟨(fun _ _ _ hh => hh), (fun _ _ _ hh => RV ZQ (fun ar t ht => by obtain ⟨x, r, rfl, hq, rfl⟩ := Hx ht; exact JM N x.1 x.2 r hq) hh), tv⟩) (.p rfl) cn rfl ⟨rfl, rfl, tv⟩ rfl rfl (by decide) ⟨rfl, tv⟩ rfl (E9 rfl) tv ⟨(fun h => by cases h), tv⟩ rfl rfl rfl ?_
    refine Ac (wq rfl (qm rfl (qa rfl (qe rfl ?_))))
    obtain rfl := sj h
    refine Af (sm [(1000, 2010)] [(2, oD (.own 1000)), (3, iD 0)] [(1000, .vec 3 (v21.map Ar))] rfl rfl) (Au ?_)
    exact ⟨⟨[_, _], ⟨.tmp _ _ rfl, tm⟩, rfl⟩, ⟨rfl, tv⟩⟩
theorem Ko (N : Nat) (p0 : List Int) (p1 : List Int) (r : Bool) (h : D2 N p0 p1 = some r) : Av zA0 87 [pD (.sl (p0.map Ap)), pD (.sl (p1.map Ap))] [] (bD r) := by
 unfold D2 at h
 refine cw (n := 26) (rs := [.tmp 4]) Tryz.func87 fun w0 S0 => ?_
 refine wq rfl (qa rfl (Ac (wp rfl (qm rfl (AJ Ax rfl (qm rfl (AJ Ax rfl (BZ rfl (Ac ?_)))))))))
 refine Bd h (fun h => ?_) fun h => ?_
 ·refine wq rfl (qe rfl ?_)
  obtain rfl := sj h
  refine Af (sm [] [(4, bD false)] [] rfl rfl) (Au ?_)
  exact ⟨⟨[_], tm, rfl⟩, tv⟩
 ·refine Al (wp rfl (qm rfl (AJ Ax rfl (qm rfl (Ac ?_)))))
  refine AH (L := Ch N p0 p1) h (fun v2 => mk [(0, pD (.sl (p0.map Ap))), (1, pD (.sl (p1.map Ap))), (12, iD ((p0.length : Int))), (13, iD v2)] []) (fun v3 => mk [] []) (fun _ _ => rfl) (sm [] _ _ rfl rfl) (fun j2 n2 v2 h => ?_) (fun v3 s h hs => ?_)
  ·unfold Ch at h
   refine wq rfl (AT rfl (Ac (AN ?_)))
   refine Bd h (fun h => ?_) fun h => ?_
   ·refine Al (AN (AL (wq rfl (qm rfl (qa rfl (Ac (wq rfl (qw 2 rfl ?_))))))))
    refine BT h fun v5 a5 b5 h => qi Ax Da a5 (Ae b5) rfl (qk BW rfl (qw 2 rfl ?_))
    refine BT h fun v6 a6 b6 h => qi Ax Da a6 (Ae b6) rfl (qk BW rfl (BZ rfl (AK (by kernel_rfl) ?_)))
    refine Bd h (fun h => ?_) fun h => ?_
    ·refine wq rfl (qe rfl ?_)
     obtain rfl := sj h
     refine Af (sm [] [(4, bD false)] [] rfl rfl) (Au ?_)
     exact ⟨⟨[_], tm, rfl⟩, tv⟩
    ·refine Al (Ai Az rfl (AZ rfl (qm rfl (Ac ?_))))
     exact sn [] h
   ·refine AS ?_
    exact sn [] h
  ·refine Af hs (wq rfl (qe rfl ?_))
   obtain rfl := sj h
   refine Af (sm [] [(4, bD true)] [] rfl rfl) (Au ?_)
   exact ⟨⟨[_], tm, rfl⟩, tv⟩
theorem I5 (N : Nat) (p0 : List Int) (p1 : Int → Option Bool) (r : Int) (h : D8 N p0 p1 = some r) : Av zA0 119 [pD (.sl (p0.map Ap)), oD (.clo (HJ (Nw false Ap) tB p1))] [] (iD r) := by
 unfold D8 at h
 refine cw (n := 19) (rs := [.tmp 4]) Tryz.func119 fun w0 S0 => ?_
 refine wq rfl (qa rfl (Ac (wp rfl (qm rfl (AJ Ax rfl (qm rfl (Ac ?_)))))))
 refine AH (L := Bg N p0 p1) h (fun v1 => mk [(0, pD (.sl (p0.map Ap))), (1, oD (.clo (HJ (Nw false Ap) tB p1))), (7, iD ((p0.length : Int))), (8, iD v1)] []) (fun v2 => mk [] []) (fun _ _ => rfl) (sm [] _ _ rfl rfl) (fun j1 n1 v1 h => ?_) (fun v2 s h hs => ?_)
 ·unfold Bg at h
  refine wq rfl (AT rfl (Ac (AN ?_)))
  refine Bd h (fun h => ?_) fun h => ?_
  ·refine Al (AN (AL (wq rfl (qm rfl (qa rfl (Ac (wq rfl (qw 3 rfl ?_))))))))
   refine BT h fun v4 a4 b4 h => qi Ax Da a4 (Ae b4) rfl (qk BW rfl ?_)
   refine BY h fun v5 a5 h => J8 (ds0 := [_]) (ar := (Nw false Ap) v4) (.p rfl) rfl rfl ⟨rfl, tv⟩ rfl rfl rfl (Jy (MR _ _ Tp) a5) ?_
   refine Ac ?_
   refine Bd h (fun h => ?_) fun h => ?_
   ·refine wq rfl (qm rfl (qe rfl ?_))
    obtain rfl := sj h
    refine Af (sm [] [(4, iD v1)] [] rfl rfl) (Au ?_)
    exact ⟨⟨[_], tm, rfl⟩, tv⟩
   ·refine Al (Ai Az rfl (AZ rfl (qm rfl (Ac ?_))))
    exact sn [] h
  ·refine AS ?_
   exact sn [] h
 ·refine Af hs (wq rfl (qe rfl ?_))
  obtain rfl := sj h
  refine Af (sm [] [(4, iD ((-1)))] [] rfl rfl) (Au ?_)
  exact ⟨⟨[_], tm, rfl⟩, tv⟩
theorem In (N : Nat) (p0 : List Int) (p1 : Int → Option Bool) (r : Bool) (h : CL N p0 p1 = some r) : Av zA0 88 [pD (.sl (p0.map Ap)), oD (.clo (HJ (Nw false Ap) tB p1))] [] (bD r) := by
 unfold CL at h
 refine cw (n := 9) (rs := [.tmp 4]) Tryz.func88 fun w0 S0 => ?_
 refine wq rfl (qa rfl (Ac (wq rfl (qw 2 rfl ?_))))
 refine BY h fun v1 a1 h => Ay [] (I5 N p0 p1 v1 a1) aF rfl (ET rfl (qe rfl ?_))
 obtain rfl := sj h
 refine Af (sm [] [(4, bD ((decide (0 ≤ v1))))] [] rfl rfl) (Au ?_)
 exact ⟨⟨[_], tm, rfl⟩, tv⟩
theorem QH (N : Nat) (p0 : Int) (r : Bool) (h : G1 N p0 = some r) : Av zA0 89 [iD p0] [] (bD r) := by
 unfold G1 at h
 refine cw (n := 5) (rs := [.tmp 2]) Tryz.func89 fun w0 S0 => ?_
 refine wq rfl (qa rfl (Ac (wq rfl (qm rfl (ET rfl (qe rfl ?_))))))
 obtain rfl := sj h
 refine Af (sm [] [(2, bD ((decide (0 ≤ p0))))] [] rfl rfl) (Au ?_)
 exact ⟨⟨[_], tm, rfl⟩, tv⟩
theorem Pe (N : Nat) (p0 : Aa) (p1 : Ab) (r : Bool) (h : Ht N p0 p1 = some r) : Av zA0 42 [.e (.agg (Ag p0)), .e (.agg (AB p1))] [] (bD r) := by
 unfold Ht at h
 refine cw (n := 22) (rs := [.tmp 4]) Tryz.func42 fun w0 S0 => ?_
 refine wq rfl (qb rfl (qb rfl (qe rfl ?_)))
 refine AR h (fun v1 => mk [(4, bD v1)] []) (fun j1 h => ?_) (fun v1 h => ?_)
 ·refine Ai Az rfl (qL C0 Cx rfl (qL A0 AF rfl ?_))
  refine BY h fun v2 a2 h => Ay [] (Io N p0 p1 v2 a2) WR rfl (BX rfl (qm rfl ?_))
  refine Ec 9 h rfl (fun h => ?_) fun h => ?_
  ·refine qf CE rfl (ql A1 rfl (qf HO rfl (ql A1 rfl ?_)))
   refine BY h fun v4 a4 h => Ay [] (Ko N p1.fd p0.fi v4 a4) cM rfl (qp rfl (qm rfl ?_))
   refine Ec 16 h rfl (fun h => ?_) fun h => ?_
   ·refine qf Br rfl (ql A1 rfl ?_)
    refine BY h fun v6 a6 h => Ay [] (Av.weak (ds' := [pD (.sl (p1.fa.map Ap)), oD (.fnc 89)]) (In N p1.fa ((fun (x : Int) => G1 N x)) v6 a6) ⟨(fun _ _ _ hh => hh), (fun _ _ _ hh => Re bW (fun ar t ht => by obtain ⟨x, r, rfl, hq, rfl⟩ := Hx ht; exact QH N x r hq) hh), tv⟩) cL rfl ?_
    refine CF rfl (qp rfl (qe rfl ?_))
    exact sn [] h
   ·refine qw 4 rfl (qp rfl (qe rfl ?_))
    exact sn [] h
  ·refine qw 5 rfl (qp rfl (qw 5 rfl (qp rfl (qe rfl ?_))))
   exact sn [] h
 ·obtain rfl := sj h
  refine Af (sm [] [(4, bD v1)] [] rfl rfl) (Au ?_)
  exact ⟨⟨[_], tm, rfl⟩, tv⟩
theorem M4 (N : Nat) (p0 : Ab) (p1 : List Int) (p2 : List Int) (p3 : List Int) (p4 : List An) (r : Bool) (h : Ek N p0 p1 p2 p3 p4 = some r) : Av zA0 41 [.e (.agg (AB p0)), oD (.rop [.sl (p1.map Ap), .sl (p2.map Ap), .sl (p3.map Ap), .sl (p4.map AQ)])] [] (bD r) := by
 unfold Ek at h
 refine cw (n := 7) (rs := [.tmp 3]) Tryz.func41 fun w0 S0 => ?_
 refine wq rfl (qb rfl (qa rfl (Ac (wq rfl (qK C0 Cx rfl (qL A0 AF rfl ?_))))))
 refine BY h fun v1 a1 h => Ay [] (Pe N ((Aa.mk p1 p2 p3 p4)) p0 v1 a1) bv rfl (qe rfl ?_)
 obtain rfl := sj h
 refine Af (sm [] [(3, bD v1)] [] rfl rfl) (Au ?_)
 exact ⟨⟨[_], tm, rfl⟩, tv⟩
theorem Hq (N : Nat) (p0 : List Ab) (p1 : Ab → Option Bool) (r : Int) (h : CN N p0 p1 = some r) : Av zA0 75 [pD (.sl (p0.map Ar)), oD (.clo (HJ (Nw true Ar) tB p1))] [] (iD r) := by
 unfold CN at h
 refine cw (n := 19) (rs := [.tmp 4]) Tryz.func75 fun w0 S0 => ?_
 refine wq rfl (qa rfl (Ac (wp rfl (qm rfl (AJ BB rfl (qm rfl (Ac ?_)))))))
 refine AH (L := A3 N p0 p1) h (fun v1 => mk [(0, pD (.sl (p0.map Ar))), (1, oD (.clo (HJ (Nw true Ar) tB p1))), (7, iD ((p0.length : Int))), (8, iD v1)] []) (fun v2 => mk [] []) (fun _ _ => rfl) (sm [] _ _ rfl rfl) (fun j1 n1 v1 h => ?_) (fun v2 s h hs => ?_)
 ·unfold A3 at h
  refine wq rfl (AT rfl (Ac (AN ?_)))
  refine Bd h (fun h => ?_) fun h => ?_
  ·refine Al (AN (AL (wq rfl (qm rfl (qa rfl (Ac (wq rfl (qw 3 rfl ?_))))))))
   refine BT h fun v4 a4 b4 h => qi BB AF a4 (Ae b4) rfl (qK A0 AF rfl ?_)
   refine BY h fun v5 a5 h => J8 (ds0 := [_]) (ar := (Nw true Ar) v4) (.p rfl) rfl rfl ⟨rfl, tv⟩ rfl rfl rfl (Jy (MR _ _ IT) a5) ?_
   refine Ac ?_
   refine Bd h (fun h => ?_) fun h => ?_
   ·refine wq rfl (qm rfl (qe rfl ?_))
    obtain rfl := sj h
    refine Af (sm [] [(4, iD v1)] [] rfl rfl) (Au ?_)
    exact ⟨⟨[_], tm, rfl⟩, tv⟩
   ·refine Al (Ai Az rfl (AZ rfl (qm rfl (Ac ?_))))
    exact sn [] h
  ·refine AS ?_
   exact sn [] h
 ·refine Af hs (wq rfl (qe rfl ?_))
  obtain rfl := sj h
  refine Af (sm [] [(4, iD ((-1)))] [] rfl rfl) (Au ?_)
  exact ⟨⟨[_], tm, rfl⟩, tv⟩
theorem EX (N : Nat) (p0 : List Ab) (p1 : Ab → Option Bool) (r : Bool) (h : Bh N p0 p1 = some r) : Av zA0 30 [pD (.sl (p0.map Ar)), oD (.clo (HJ (Nw true Ar) tB p1))] [] (bD r) := by
 unfold Bh at h
 refine cw (n := 9) (rs := [.tmp 4]) Tryz.func30 fun w0 S0 => ?_
 refine wq rfl (qa rfl (Ac (wq rfl (qw 2 rfl ?_))))
 refine BY h fun v1 a1 h => Ay [] (Hq N p0 p1 v1 a1) bY rfl (ET rfl (qe rfl ?_))
 obtain rfl := sj h
 refine Af (sm [] [(4, bD ((decide (0 ≤ v1))))] [] rfl rfl) (Au ?_)
 exact ⟨⟨[_], tm, rfl⟩, tv⟩
theorem K2 (N : Nat) (p0 : Aa) (r : (List Ab) × Int) (h : Fu N p0 = some r) : Av zA0 12 [.e (.agg (Ag p0))] [(3, r.1.map Ar)] (.tup [.one (.own 0), .one (iC r.2)]) := by
 unfold Fu at h
 refine cw (n := 18) (rs := [.tmp 2, .tmp 3]) Tryz.func12 fun w0 S0 => ?_
 refine wq rfl (qb rfl (qa rfl (qa rfl (Ac (wq rfl (qL C0 Cx rfl ?_))))))
 refine BY h fun v1 a1 h => Ay [2001] (O7 N p0 v1 a1) bV rfl (qm rfl (qx rfl (qx rfl (qa rfl (qa rfl (Ac (wp rfl (qm rfl (BZ rfl (Ac ?_))))))))))
 refine Bd h (fun h => ?_) fun h => ?_
 ·refine wq rfl (qm rfl (qa rfl (qe rfl ?_)))
  obtain rfl := sj h
  refine Af ((Ba 2 2002 3 rfl rfl rfl).trans (sm [(1000, 2002)] [(2, oD (.own 1000)), (3, iD v1.2)] [(1000, .vec 3 ((([] : List Ab)).map Ar))] rfl rfl)) (Au ?_)
  exact ⟨⟨[_, _], ⟨.tmp _ _ rfl, tm⟩, rfl⟩, ⟨rfl, tv⟩⟩
 ·refine Al (wp rfl (qm rfl (Dh (KG 1 [.sl (p0.fb.map Ap), .sl (p0.fh.map Ap), .sl (p0.fi.map Ap), .sl (p0.fc.map AQ)] rfl rfl) ?_)))
  refine J9 (capD := [_]) (HJ (Nw true Ar) tB ((fun (x : Ab) => Ek N x p0.fb p0.fh p0.fi p0.fc))) (.p rfl) cq rfl ⟨rfl, tv⟩ rfl (fun ar t ht => by obtain ⟨x, r, rfl, hq, rfl⟩ := Hx ht; exact M4 N x p0.fb p0.fh p0.fi p0.fc r hq) ?_
  refine BY h fun v3 a3 h => Dl [] [2001] (EX N v1.1 ((fun (x : Ab) => Ek N x p0.fb p0.fh p0.fi p0.fc)) v3 a3) aK BV rfl (Ac ?_)
  refine Bd h (fun h => ?_) fun h => ?_
  ·refine wq rfl (qa rfl (qe rfl ?_))
   obtain rfl := sj h
   refine Af ((Ba 2 2003 3 rfl rfl rfl).trans (sm [(1000, 2003)] [(2, oD (.own 1000)), (3, iD 15)] [(1000, .vec 3 ((([] : List Ab)).map Ar))] rfl rfl)) (Au ?_)
   exact ⟨⟨[_, _], ⟨.tmp _ _ rfl, tm⟩, rfl⟩, ⟨rfl, tv⟩⟩
  ·refine Al (wq rfl (qm rfl (qa rfl (qe rfl ?_))))
   obtain rfl := sj h
   refine Af (sm [(1000, 2001)] [(2, oD (.own 1000)), (3, iD 0)] [(1000, .vec 3 (v1.1.map Ar))] rfl rfl) (Au ?_)
   exact ⟨⟨[_, _], ⟨.tmp _ _ rfl, tm⟩, rfl⟩, ⟨rfl, tv⟩⟩
theorem Ni (N : Nat) (p0 : Aa) (p1 : Ab) (r : (List BD) × Int) (h : FC N p0 p1 = some r) : Av zA0 18 [.e (.agg (Ag p0)), .e (.agg (AB p1))] [(9, r.1.map D5)] (.tup [.one (.own 0), .one (iC r.2)]) := by
 unfold FC at h
 refine cw (n := 56) (rs := [.tmp 4, .tmp 5]) Tryz.func18 fun w0 S0 => ?_
 refine wq rfl (qb rfl (qb rfl (qa rfl (qa rfl (Ac (wq rfl (qL C0 Cx rfl (qL A0 AF rfl ?_))))))))
 refine BY h fun v1 a1 h => Ay [2001] (I3 N p0 p1 v1 a1) Za rfl (qm rfl (qx rfl (qx rfl (qa rfl (qa rfl (Ac (wp rfl (qm rfl (BZ rfl (Ac ?_))))))))))
 refine Bd h (fun h => ?_) fun h => ?_
 ·refine wq rfl (qm rfl (qa rfl (qe rfl ?_)))
  obtain rfl := sj h
  refine Af ((Ba 4 2002 9 rfl rfl rfl).trans (sm [(1000, 2002)] [(4, oD (.own 1000)), (5, iD v1.2)] [(1000, .vec 9 ((([] : List BD)).map D5))] rfl rfl)) (Au ?_)
  exact ⟨⟨[_, _], ⟨.tmp _ _ rfl, tm⟩, rfl⟩, ⟨rfl, tv⟩⟩
 ·refine Al (wq rfl (qa rfl (Ac (wp rfl (qm rfl (DQ Fj rfl (qm rfl (Ac ?_))))))))
  refine AH (L := CR N p0 p1 v1) h (fun v3 => mk [(2, oD (.ptr 2 0)), (3, oD (.ptr 3 0)), (8, oD (.own 2003)), (25, oD (.own 2004)), (26, iD ((v1.1.length : Int))), (27, iD v3.2)] [(2, .box (Ag p0)), (3, .box (AB p1)), (2003, .vec 9 (v3.1.map D5)), (2004, .vec 3 (v1.1.map AM))]) (fun v4 => mk [(8, oD (.own 2005))] [(2005, .vec 9 (v4.map D5))]) (fun _ _ => rfl) ((Ba 8 2011 9 rfl rfl rfl).trans (sm [(2003, 2011), (2004, 2001)] _ _ rfl rfl)) (fun j3 n3 v3 h => ?_) (fun v4 s h hs => ?_)
  ·unfold CR at h
   refine wq rfl (AT rfl (Ac (AN ?_)))
   refine Bd h (fun h => ?_) fun h => ?_
   ·refine Al ?_
    refine AR h (fun v6 => mk [(2, oD (.ptr 2 0)), (3, oD (.ptr 3 0)), (8, oD (.own 2006)), (25, oD (.own 2007)), (26, iD ((v1.1.length : Int))), (27, iD v3.2)] [(2, .box (Ag p0)), (3, .box (AB p1)), (2006, .vec 9 (v6.map D5)), (2007, .vec 3 (v1.1.map AM))]) (fun j6 h => ?_) (fun v6 h => ?_)
    ·refine AL (wq rfl ?_)
     refine BT h fun v7 a7 b7 h => qI Fj E8 a7 (Ae b7) rfl (qJ IJ E8 (Ae b7) rfl (qz JE rfl (qs E8 rfl (Ac (wq rfl (qL C0 Cx rfl (qL A0 AF rfl (qL IJ E8 rfl ?_))))))))
     refine BY h fun v8 a8 h => Ay [2008, 2009, 2010] (Kj N p0 p1 v7 v8 a8) Zs rfl (qm rfl (qx rfl (qx rfl (qz Ci rfl (qs AF rfl (qa rfl (Ac (wq rfl (qL C0 Cx rfl (qL A0 AF rfl (Dh (AW 2008 _ _ rfl rfl) (Dh (AW 2009 _ _ rfl rfl) (Dh (AW 2010 _ _ rfl rfl) ?_)))))))))))))
     refine BY h fun v9 a9 h => Ay [] (NU N p0 v8.1 v9 a9) aO rfl (qm rfl (qx rfl (qx rfl (qx rfl (qz Ci rfl (qz IP rfl (qs AF rfl (qs E2 rfl (qa rfl (Ac (wq rfl (qm rfl (BX rfl (Ac ?_))))))))))))))
     refine Bd h (fun h => ?_) fun h => ?_
     ·refine Ai Az rfl (qm rfl (qL IJ E8 rfl (qL A0 AF rfl (qL KE E2 rfl (A9 VX bZ rfl (DI LG SU VX rfl ?_))))))
      refine Gf h fun c11 h => DH (f := D5) LG LG SU YR VX c11 rfl (qe rfl ?_)
      exact sn [(2006, 53), (2007, 2004)] h
     ·refine Al ?_
      exact sn [(2006, 2003), (2007, 2004)] h
    ·refine Ai Az rfl (AZ rfl (qm rfl (Ac ?_)))
     exact sn [(2003, 2006), (2004, 2007)] h
   ·refine AS ?_
    exact sn [(2005, 2003)] h
  ·refine Af hs (wq rfl (qm rfl (qa rfl (qe rfl ?_))))
   obtain rfl := sj h
   refine Af (sm [(1000, 2005)] [(4, oD (.own 1000)), (5, iD 0)] [(1000, .vec 9 (v4.map D5))] rfl rfl) (Au ?_)
   exact ⟨⟨[_, _], ⟨.tmp _ _ rfl, tm⟩, rfl⟩, ⟨rfl, tv⟩⟩
theorem KA (N : Nat) (p0 : Aa) (p1 : List Ab) (r : (List BD) × Int) (h : Fd N p0 p1 = some r) : Av zA0 21 [.e (.agg (Ag p0)), pD (.sl (p1.map Ar))] [(9, r.1.map D5)] (.tup [.one (.own 0), .one (iC r.2)]) := by
 unfold Fd at h
 refine cw (n := 37) (rs := [.tmp 4, .tmp 5]) Tryz.func21 fun w0 S0 => ?_
 refine wq rfl (qb rfl (qa rfl (qa rfl (Ac (wp rfl (qL C0 Cx rfl ?_))))))
 refine BY h fun v1 a1 h => Ay [] (FF N p0 v1 a1) XB rfl (qa rfl (Ac (wq rfl (qm rfl (BZ rfl (Ac ?_))))))
 refine Bd h (fun h => ?_) fun h => ?_
 ·refine wq rfl (qm rfl (qa rfl (qe rfl ?_)))
  obtain rfl := sj h
  refine Af ((Ba 4 2001 9 rfl rfl rfl).trans (sm [(1000, 2001)] [(4, oD (.own 1000)), (5, iD v1)] [(1000, .vec 9 ((([] : List BD)).map D5))] rfl rfl)) (Au ?_)
  exact ⟨⟨[_, _], ⟨.tmp _ _ rfl, tm⟩, rfl⟩, ⟨rfl, tv⟩⟩
 ·refine Al (wq rfl (qa rfl (Ac (wp rfl (qm rfl (AJ BB rfl (qm rfl (Ac ?_))))))))
  refine AH (L := DF N p0 p1) h (fun v3 => mk [(2, oD (.ptr 2 0)), (7, oD (.own 2002)), (17, pD (.sl (p1.map Ar))), (18, iD ((p1.length : Int))), (19, iD v3.2)] [(2, .box (Ag p0)), (2002, .vec 9 (v3.1.map D5))]) (fun v4 => mk [(7, oD (.own 2003))] [(2003, .vec 9 (v4.map D5))]) (fun _ _ => rfl) ((Ba 7 2006 9 rfl rfl rfl).trans (sm [(2002, 2006)] _ _ rfl rfl)) (fun j3 n3 v3 h => ?_) (fun v4 s h hs => ?_)
  ·unfold DF at h
   refine wq rfl (AT rfl (Ac (AN ?_)))
   refine Bd h (fun h => ?_) fun h => ?_
   ·refine Al (AN (AL (wq rfl ?_)))
    refine BT h fun v6 a6 b6 h => qi BB AF a6 (Ae b6) rfl (qK A0 AF rfl (qz Ci rfl (qs AF rfl (Ac (wq rfl (qL C0 Cx rfl (qL A0 AF rfl ?_)))))))
    refine BY h fun v7 a7 h => Ay [2004] (Ni N p0 v6 v7 a7) cb rfl (qm rfl (qx rfl (qx rfl (qa rfl (qa rfl (Ac (wp rfl (qm rfl (BZ rfl (Ac ?_))))))))))
    refine Bd h (fun h => ?_) fun h => ?_
    ·refine wq rfl (qm rfl (qa rfl (qe rfl ?_)))
     obtain rfl := sj h
     refine Af ((Ba 4 2005 9 rfl rfl rfl).trans (sm [(1000, 2005)] [(4, oD (.own 1000)), (5, iD v7.2)] [(1000, .vec 9 ((([] : List BD)).map D5))] rfl rfl)) (Au ?_)
     exact ⟨⟨[_, _], ⟨.tmp _ _ rfl, tm⟩, rfl⟩, ⟨rfl, tv⟩⟩
    ·refine Al (Ai Az rfl (qw 2 rfl ?_))
     refine Gf h fun c9 h => DH (f := D5) LG LG SU YR VX c9 rfl (qa rfl (Ac (Ai Az rfl (AZ rfl (qm rfl (Ac ?_))))))
     exact sn [(2002, 34)] h
   ·refine AS ?_
    exact sn [(2003, 2002)] h
  ·refine Af hs (wq rfl (qm rfl (qa rfl (qe rfl ?_))))
   obtain rfl := sj h
   refine Af (sm [(1000, 2003)] [(4, oD (.own 1000)), (5, iD 0)] [(1000, .vec 9 (v4.map D5))] rfl rfl) (Au ?_)
   exact ⟨⟨[_, _], ⟨.tmp _ _ rfl, tm⟩, rfl⟩, ⟨rfl, tv⟩⟩
def Zk : Go.Shelf.Ren := ⟨fun | 6 => 59 | 14 => 104 | 15 => 105 | 20 => 132 | 21 => 133 | 22 => 134 | 23 => 135 | 24 => 136 | 25 => 137 | 26 => 138 | 27 => 139 | 28 => 140 | 29 => 141 | 46 => 161 | 47 => 162 | 48 => 163 | 49 => 164 | 50 => 165 | 57 => 171 | n => n, fun | 0 => 0 | 3 => 3 | 4 => 4 | 5 => 5 | 9 => 9 | 22 => 55 | 24 => 66 | 25 => 112 | 39 => 152 | 45 => 172 | 46 => 173 | 50 => 122 | 53 => 179 | 55 => 181 | 66 => 195 | 70 => 199 | 76 => 205 | 77 => 206 | n => n, fun n => n⟩
theorem ZO : SlLaysF0.n6 zA0 Zk := { mixed := Az, f6 := ⟨Tryz.f59.name, by decide, Tryz.func59.trans (congrArg some (by kernel_rfl))⟩, f14 := ⟨Tryz.f104.name, by decide, Tryz.func104.trans (congrArg some (by kernel_rfl))⟩, f15 := Tryz.func105.trans (congrArg some (by kernel_rfl)), f20 := ⟨Tryz.f132.name, by decide, Tryz.func132.trans (congrArg some (by kernel_rfl))⟩, f21 := ⟨Tryz.f133.name, by decide, Tryz.func133.trans (congrArg some (by kernel_rfl))⟩, f22 := ⟨Tryz.f134.name, by decide, Tryz.func134.trans (congrArg some (by kernel_rfl))⟩, f23 := ⟨Tryz.f135.name, by decide, Tryz.func135.trans (congrArg some (by kernel_rfl))⟩, f24 := ⟨Tryz.f136.name, by decide, Tryz.func136.trans (congrArg some (by kernel_rfl))⟩, f25 := ⟨Tryz.f137.name, by decide, Tryz.func137.trans (congrArg some (by kernel_rfl))⟩, f26 := ⟨Tryz.f138.name, by decide, Tryz.func138.trans (congrArg some (by kernel_rfl))⟩, f27 := ⟨Tryz.f139.name, by decide, Tryz.func139.trans (congrArg some (by kernel_rfl))⟩, f28 := Tryz.func140.trans (congrArg some (by kernel_rfl)), f29 := Tryz.func141.trans (congrArg some (by kernel_rfl)), f46 := ⟨Tryz.f161.name, by decide, Tryz.func161.trans (congrArg some (by kernel_rfl))⟩, f47 := Tryz.func162.trans (congrArg some (by kernel_rfl)), f48 := Tryz.func163.trans (congrArg some (by kernel_rfl)), f49 := ⟨Tryz.f164.name, by decide, Tryz.func164.trans (congrArg some (by kernel_rfl))⟩, f50 := ⟨Tryz.f165.name, by decide, Tryz.func165.trans (congrArg some (by kernel_rfl))⟩, f57 := ⟨Tryz.f171.name, by decide, Tryz.func171.trans (congrArg some (by kernel_rfl))⟩, t0 := Tryz.underlying0, a0 := Tryz.isAgg0, z0 := Tryz.sizeOf0, v0 := Tryz.zeroValue0, t3 := Tryz.underlying3, a3 := Tryz.isAgg3, z3 := Tryz.sizeOf3, v3 := Tryz.zeroValue3, t4 := Tryz.underlying4, a4 := Tryz.isAgg4, z4 := Tryz.sizeOf4, v4 := Tryz.zeroValue4, t5 := Tryz.underlying5, a5 := Tryz.isAgg5, z5 := Tryz.sizeOf5, v5 := Tryz.zeroValue5, t9 := Tryz.underlying9, a9 := Tryz.isAgg9, z9 := Tryz.sizeOf9, v9 := Tryz.zeroValue9, t22 := Tryz.underlying55, a22 := Tryz.isAgg55, z22 := Tryz.sizeOf55, v22 := Tryz.zeroValue55, t25 := Tryz.underlying112, a25 := Tryz.isAgg112, z25 := Tryz.sizeOf112, v25 := Tryz.zeroValue112, t39 := Tryz.underlying152, a39 := Tryz.isAgg152, z39 := Tryz.sizeOf152, v39 := Tryz.zeroValue152, t45 := Tryz.underlying172, a45 := Tryz.isAgg172, z45 := Tryz.sizeOf172, v45 := Tryz.zeroValue172, t46 := Tryz.underlying173, a46 := Tryz.isAgg173, z46 := Tryz.sizeOf173, v46 := Tryz.zeroValue173, t50 := Tryz.underlying122, a50 := Tryz.isAgg122, z50 := Tryz.sizeOf122, v50 := Tryz.zeroValue122, t53 := Tryz.underlying179, a53 := Tryz.isAgg179, z53 := Tryz.sizeOf179, v53 := Tryz.zeroValue179, t55 := Tryz.underlying181, a55 := Tryz.isAgg181, z55 := Tryz.sizeOf181, v55 := Tryz.zeroValue181, t66 := Tryz.underlying195, a66 := Tryz.isAgg195, z66 := Tryz.sizeOf195, v66 := Tryz.zeroValue195, t70 := Tryz.underlying199, a70 := Tryz.isAgg199, z70 := Tryz.sizeOf199, v70 := Tryz.zeroValue199, t76 := Tryz.underlying205, a76 := Tryz.isAgg205, z76 := Tryz.sizeOf205, v76 := Tryz.zeroValue205, t77 := Tryz.underlying206, a77 := Tryz.isAgg206, z77 := Tryz.sizeOf206, v77 := Tryz.zeroValue206 }
theorem F1 (N : Nat) (p0 : List Ad) (p1 : (Ad × Ad) → Option Int) (r : (List Ad)) (h : Bi N p0 p1 = some r) : Dy zA0 59 [oD (.own 90000), oD (.clo (HJ (Vm true Ao true Ao) Ws p1))] [(.vec 3 (p0.map Ao), .vec 3 (r.map Ao))] [] (.tup []) := T5 ZO 3 (Hu KE) (EB E2) O5 (@M0) h
theorem L9 (N : Nat) (p0 : Ad) (p1 : Ad) (r : Int) (h : Cn N p0 p1 = some r) : Av zA0 60 [.e (.agg (FA p0)), .e (.agg (FA p1))] [] (iD r) := by
 unfold Cn at h
 refine cw (n := 22) (rs := [.tmp 4]) Tryz.func60 fun w0 S0 => ?_
 refine wq rfl (qb rfl (qb rfl (qa rfl (Ac (wq rfl (qf Kr rfl (ql BW rfl (qf Kr rfl (ql BW rfl ?_)))))))))
 refine BY h fun v1 a1 h => Ay [] (Gw N p0.fr p1.fr v1 a1) XN rfl (qf Lo rfl (ql BW rfl (qf Lo rfl (ql BW rfl ?_))))
 refine BY h fun v2 a2 h => Ay [] (Gw N p0.fq p1.fq v2 a2) XN rfl (qf Mo rfl (ql BW rfl (qf Mo rfl (ql BW rfl ?_))))
 refine BY h fun v3 a3 h => Ay [] (Gw N p0.fu p1.fu v3 a3) XN rfl (DI Ax Da JZ rfl ?_)
 refine BY h fun v4 a4 h => Dl [] [20] (Mx N (([v1, v2, v3] : List Int)) v4 a4) bh BV rfl (qa rfl (AK (by kernel_rfl) ?_))
 obtain rfl := sj h
 refine Af (sm [] [(4, iD v4)] [] rfl rfl) (Au ?_)
 exact ⟨⟨[_], tm, rfl⟩, tv⟩
theorem Ge (N : Nat) (p0 : List Ad) (r : Nat × (List Ad)) (h : A4 N p0 = some r) : Dy zA0 63 [oD (.own 90000)] [(.vec 3 (p0.map Ao), .vec 3 (r.2.map Ao))] [] (oD (.view 90000 3 0 r.1)) := by
 unfold A4 at h
 refine Fi (n := 61) (rs := [.tmp 2]) Tryz.func63 rfl rfl rfl (Ig rfl) (Ig rfl) rfl rfl (Ig rfl) rfl (Ig rfl) fun w0 S0 GL => ?_
 refine Af (sm [] [(0, oD (.own 90000))] [(90000, .vec 3 (p0.map Ao))] rfl rfl) (wq rfl (qa rfl (Ac (wp rfl (qm rfl (DQ Ed rfl (AT rfl (Ac ?_))))))))
 refine Bd h (fun h => ?_) fun h => ?_
 ·refine wq rfl (qm rfl (qe rfl ?_))
  obtain rfl := sj h
  refine Af ((Q5 Ao p0 2 90000 3 rfl rfl).trans (sm [] [(2, oD (.view 90000 3 0 p0.length))] [(90000, .vec 3 (p0.map Ao))] rfl rfl)) (Au ?_)
  exact ⟨⟨[_], tm, rfl⟩, ⟨rfl, tv⟩, tv⟩
 ·refine Al (wp rfl (qe rfl ?_))
  refine AH (L := BM N p0) h (fun v2 => mk [(0, oD (.own 90000)), (3, iD v2)] [(90000, .vec 3 (p0.map Ao))]) (fun v3 => mk [(0, oD (.own 90000))] [(90000, .vec 3 (p0.map Ao))]) (fun _ _ => rfl) (sm [] _ _ rfl rfl) (fun j2 n2 v2 h => ?_) (fun v3 s h hs => ?_)
  ·unfold BM at h
   refine wp rfl (qw 2 rfl (DQ Ed rfl (AT rfl (Ac ?_))))
   refine Bd h (fun h => ?_) fun h => ?_
   ·refine Al (AN (AL (wq rfl (qw 2 rfl ?_))))
    refine BT h fun v5 a5 b5 h => qI Ed E2 a5 (Ae b5) rfl (qJ KE E2 (Ae b5) rfl (qw 2 rfl (Qa rfl ?_)))
    refine BT h fun v6 a6 b6 h => qI Ed E2 a6 (Ae b6) rfl (qJ KE E2 (Ae b6) rfl ?_)
    refine VG [.int .i64 v5.fr, .int .i64 v5.fq, .int .i64 v5.fu] [.int .i64 v6.fr, .int .i64 v6.fq, .int .i64 v6.fu] (.p rfl) rfl rfl T7 rfl ?_
    refine AK (by kernel_rfl) ?_
    refine Bd h (fun h => ?_) fun h => ?_
    ·refine wq rfl (qw 2 rfl ?_)
     obtain ⟨c8, h⟩ := GE h
     have w9 : ((v2).toNat) + ((p0.length - (v2).toNat)) ≤ p0.length := by have := c8.2.1; have := c8.2.2; omega
     refine Jb Ao p0 (.p rfl) rfl (Iu Ao _ _ p0) rfl Ed E2 (.some _ _ _ _ c8.1) (.none _) ⟨rfl, tv⟩ tv c8.2.1 (by rw [zA1]; exact c8.2.2) (zA1 _) rfl ?_
     refine qa rfl (Ac (wp rfl (qe rfl ?_)))
     refine AH (L := BG N p0 v2) h (fun v10 => mk [(0, oD (.own 90000)), (3, iD v10.2.1), (4, oD (.view 90000 3 ((v2).toNat) ((p0.length - (v2).toNat)))), (5, iD v10.2.2)] [(90000, .vec 3 (v10.1.map Ao))]) (fun v11 => mk [(0, oD (.own 90000)), (3, iD v11.2)] [(90000, .vec 3 (v11.1.map Ao))]) (fun _ _ => rfl) (sm [] _ _ rfl rfl) (fun j10 n10 v10 h => ?_) (fun v11 s h hs => ?_)
     ·unfold BG at h
      refine wp rfl (qw 2 rfl ?_)
      refine Xv (.p rfl) rfl Ed ?_
      refine AT rfl (Ac ?_)
      refine Bd h (fun h => ?_) fun h => ?_
      ·refine Al ?_
       refine AR h (fun v13 => mk [(0, oD (.own 90000)), (3, iD v13.2), (4, oD (.view 90000 3 ((v2).toNat) ((p0.length - (v2).toNat)))), (5, iD v10.2.2)] [(90000, .vec 3 (v13.1.map Ao))]) (fun j13 h => ?_) (fun v13 h => ?_)
       ·refine AL (wq rfl (qw 2 rfl ?_))
        refine Gf h fun c15 h => BT h fun v14 a14 b14 h => MZ Ao v10.1 (.p rfl) rfl c15 rfl rfl Ed E2 a14 (J3 b14).1 rfl ?_
        refine MB (.p rfl) rfl KE E2 rfl (Ae (J3 b14).2) ?_
        refine qw 2 rfl (Qa rfl ?_)
        refine BT h fun v16 a16 b16 h => MZ Ao v10.1 (.p rfl) rfl c15 rfl rfl Ed E2 a16 (J3 b16).1 rfl ?_
        refine MB (.p rfl) rfl KE E2 rfl (Ae (J3 b16).2) ?_
        refine YA [.int .i64 v14.fr, .int .i64 v14.fq, .int .i64 v14.fu] [.int .i64 v16.fr, .int .i64 v16.fq, .int .i64 v16.fu] (.p rfl) rfl rfl T7 rfl ?_
        refine AK (by kernel_rfl) ?_
        refine Bd h (fun h => ?_) fun h => ?_
        ·refine wq rfl (qw 4 rfl ?_)
         refine BT h fun v18 a18 b18 h => MZ Ao v10.1 (.p rfl) rfl c15 rfl rfl Ed E2 a18 (J3 b18).1 rfl ?_
         refine MB (.p rfl) rfl KE E2 rfl (Ae (J3 b18).2) ?_
         refine BT h fun v19 a19 b19 h => qI Ed E2 a19 (Ae b19) rfl ?_
         refine EH rfl rfl rfl rfl (Ae b19) rfl E2 rfl (Ig rfl) (Ej Ao v10.1 _ v18) ?_
         refine Ac (Ai Az rfl (qm rfl (AZ rfl (qe rfl ?_))))
         exact sn [] h
        ·refine Al ?_
         exact sn [] h
       ·refine Ai Az rfl (qm rfl (AZ rfl (qe rfl ?_)))
        exact sn [] h
      ·refine AS ?_
       exact sn [] h
     ·refine Af hs (wq rfl (qw 2 rfl ?_))
      obtain ⟨c20, h⟩ := GE h
      have w21 : ((v11.2).toNat) + ((v11.1.length - (v11.2).toNat)) ≤ v11.1.length := by have := c20.2.1; have := c20.2.2; omega
      refine Jb Ao v11.1 (.p rfl) rfl (Iu Ao _ _ v11.1) rfl Ed E2 (.some _ _ _ _ c20.1) (.none _) ⟨rfl, tv⟩ tv c20.2.1 (by rw [zA1]; exact c20.2.2) (zA1 _) rfl ?_
      have w22 : (HY v11.1 ((v11.2).toNat) (zA2 ((v11.1.length - (v11.2).toNat)) ((Ad.mk 0 0 0)))).length = v11.1.length := Jc (by rw [List.length_replicate]; exact w21)
      refine RO Ao v11.1 ((Ad.mk 0 0 0)) rfl rfl (Nl Ao _ _ ((v11.2).toNat) ((v11.1.length - (v11.2).toNat)) v11.1 w21) rfl Ed IP rfl rfl rfl rfl ?_
      refine Ac (wq rfl (qw 2 rfl ?_))
      obtain ⟨c23, h⟩ := GE h
      have w24 : 0 + ((v11.2).toNat) ≤ (HY v11.1 ((v11.2).toNat) (zA2 ((v11.1.length - (v11.2).toNat)) ((Ad.mk 0 0 0)))).length := by have := c23.2.1; have := c23.2.2; omega
      refine Jb Ao (HY v11.1 ((v11.2).toNat) (zA2 ((v11.1.length - (v11.2).toNat)) ((Ad.mk 0 0 0)))) (.p rfl) rfl (Iu Ao _ _ (HY v11.1 ((v11.2).toNat) (zA2 ((v11.1.length - (v11.2).toNat)) ((Ad.mk 0 0 0))))) rfl Ed E2 (.none _) (.some _ _ _ _ c23.1) tv ⟨rfl, tv⟩ c23.2.1 (by rw [zA1]; exact c23.2.2) (zA1 _) rfl ?_
      refine qa rfl (Ac ?_)
      obtain rfl := sj h
      refine Af (sm [] [(2, oD (.view 90000 3 0 ((v11.2).toNat)))] [(90000, .vec 3 ((HY v11.1 ((v11.2).toNat) (zA2 ((v11.1.length - (v11.2).toNat)) ((Ad.mk 0 0 0)))).map Ao))] rfl rfl) (Au ?_)
      exact ⟨⟨[_], tm, rfl⟩, ⟨rfl, tv⟩, tv⟩
    ·refine Al (Ai Az rfl (qm rfl (AZ rfl (qe rfl ?_))))
     exact sn [] h
   ·refine AS ?_
    exact sn [] h
  ·refine Af hs (wq rfl (qm rfl (qe rfl ?_)))
   obtain rfl := sj h
   refine Af ((Q5 Ao p0 2 90000 3 rfl rfl).trans (sm [] [(2, oD (.view 90000 3 0 p0.length))] [(90000, .vec 3 (p0.map Ao))] rfl rfl)) (Au ?_)
   exact ⟨⟨[_], tm, rfl⟩, ⟨rfl, tv⟩, tv⟩
theorem J0 (N : Nat) (p0 : Aa) (p1 : List Ab) (r : (List Ad) × Int) (h : EW N p0 p1 = some r) : Av zA0 22 [.e (.agg (Ag p0)), pD (.sl (p1.map Ar))] [(3, r.1.map Ao)] (.tup [.one (.own 0), .one (iC r.2)]) := by
 unfold EW at h
 refine cw (n := 36) (rs := [.tmp 4, .tmp 5]) Tryz.func22 fun w0 S0 => ?_
 refine wq rfl (qb rfl (qa rfl (qa rfl (Ac (wq rfl (qL C0 Cx rfl (qm rfl ?_)))))))
 refine BY h fun v1 a1 h => Ay [2001] (KA N p0 p1 v1 a1) aU rfl (qm rfl (qx rfl (qx rfl (qa rfl (qa rfl (Ac (wp rfl (qm rfl (BZ rfl (Ac ?_))))))))))
 refine Bd h (fun h => ?_) fun h => ?_
 ·refine wq rfl (qm rfl (qa rfl (qe rfl ?_)))
  obtain rfl := sj h
  refine Af ((Ba 4 2002 3 rfl rfl rfl).trans (sm [(1000, 2002)] [(4, oD (.own 1000)), (5, iD v1.2)] [(1000, .vec 3 ((([] : List Ad)).map Ao))] rfl rfl)) (Au ?_)
  exact ⟨⟨[_, _], ⟨.tmp _ _ rfl, tm⟩, rfl⟩, ⟨rfl, tv⟩⟩
 ·refine Al (wq rfl (qa rfl (Ac (wp rfl (qm rfl (DQ LG rfl (qm rfl (Ac ?_))))))))
  refine AH (L := Dn N v1) h (fun v3 => mk [(8, oD (.own 2003)), (20, oD (.own 2004)), (21, iD ((v1.1.length : Int))), (22, iD v3.2)] [(2003, .vec 3 (v3.1.map Ao)), (2004, .vec 9 (v1.1.map D5))]) (fun v4 => mk [(8, oD (.own 2005))] [(2005, .vec 3 (v4.map Ao))]) (fun _ _ => rfl) ((Ba 8 2006 3 rfl rfl rfl).trans (sm [(2003, 2006), (2004, 2001)] _ _ rfl rfl)) (fun j3 n3 v3 h => ?_) (fun v4 s h hs => ?_)
  ·unfold Dn at h
   refine wq rfl (AT rfl (Ac (AN ?_)))
   refine Bd h (fun h => ?_) fun h => ?_
   ·refine Al (AN (AL (wq rfl ?_)))
    refine BT h fun v6 a6 b6 h => qI LG SU a6 (Ae b6) rfl (qJ cJ SU (Ae b6) rfl (qz VX rfl (qs SU rfl (Ac (Ai Az rfl (qm rfl (qf Ud rfl (qL KE E2 rfl (DI Ed E2 IP rfl ?_)))))))))
    refine Gf h fun c7 h => DH (f := Ao) Ed Ed E2 RC IP c7 rfl (qa rfl (Ac (Ai Az rfl (AZ rfl (qm rfl (Ac ?_))))))
    exact sn [(2003, 30)] h
   ·refine AS ?_
    exact sn [(2005, 2003)] h
  ·refine Af hs (wq rfl (qm rfl ?_))
   refine BY h fun v8 a8 h => H9 (ds0 := [_, _]) [2005] [] [true] (Dy.weak (ds' := [_, oD (.fnc 60)]) (F1 N v4 ((fun (x : Ad × Ad) => Cn N x.1 x.2)) v8 a8) ⟨(fun _ _ _ hh => hh), (fun _ _ _ hh => RV bU (fun ar t ht => by obtain ⟨x, r, rfl, hq, rfl⟩ := Hx ht; exact L9 N x.1 x.2 r hq) hh), tv⟩) (.p rfl) ca rfl ⟨rfl, rfl, tv⟩ rfl rfl (by decide) ⟨rfl, tv⟩ rfl (E9 rfl) tv ⟨(fun h => by cases h), tv⟩ rfl rfl rfl ?_
   refine Ac (wq rfl (qm rfl ?_))
   obtain ⟨v9, a9, h⟩ := bind_some h
   obtain ⟨c10, h⟩ := GE h
   have w11 : 0 + v9.1 ≤ v9.2.length := by rw [zA1]; exact c10
   refine H9 (ds0 := [_]) [2005] [] [true] (Ge N v8 v9 a9) (.p rfl) cQ rfl ⟨rfl, tv⟩ rfl rfl (by decide) ⟨rfl, tv⟩ rfl (E9 rfl) tv ⟨(fun h => by cases h), tv⟩ rfl rfl rfl ?_
   refine Dh (Vz Ao v9.2 35 2005 2007 3 v9.1 rfl rfl rfl rfl rfl c10) (qa rfl (qe rfl ?_))
   obtain rfl := sj h
   refine Af (sm [(1000, 2007)] [(4, oD (.own 1000)), (5, iD 0)] [(1000, .vec 3 ((v9.2.take v9.1).map Ao))] rfl rfl) (Au ?_)
   exact ⟨⟨[_, _], ⟨.tmp _ _ rfl, tm⟩, rfl⟩, ⟨rfl, tv⟩⟩
theorem M7 (N : Nat) (p0 : Aa) (p1 : List Ab) (r : Int × Ab × Int) (h : HH N p0 p1 = some r) : Av zA0 25 [.e (.agg (Ag p0)), pD (.sl (p1.map Ar))] [(1, r.2.1.fd.map Ap), (1, r.2.1.fa.map Ap), (1, r.2.1.fe.map C8)] (.tup [.one (iC r.1), .agg [.own 0, .own 1, .own 2], .one (iC r.2.2)]) := by
 unfold HH at h
 refine cw (n := 88) (rs := [.tmp 4, .cell 5 46, .tmp 6]) Tryz.func25 fun w0 S0 => ?_
 refine wq rfl (qb rfl (qa rfl (qz Ci rfl (qa rfl (Ac (wp rfl (qL C0 Cx rfl ?_)))))))
 refine BY h fun v1 a1 h => Ay [] (FF N p0 v1 a1) XB rfl (qa rfl (Ac (wq rfl (qm rfl (BZ rfl (Ac ?_))))))
 refine Bd h (fun h => ?_) fun h => ?_
 ·refine wq rfl (A9 Ci Hn rfl (qm rfl (qa rfl (qs AF rfl (qe rfl ?_)))))
  obtain rfl := sj h
  refine Af ((As 5 0 2001 1 _ rfl rfl rfl rfl).trans ((As 5 1 2002 1 _ rfl rfl rfl rfl).trans ((As 5 2 2003 1 _ rfl rfl rfl rfl).trans (sm [(1000, 2001), (1001, 2002), (1002, 2003)] [(4, iD 0), (5, oD (.ptr 5 0)), (6, iD v1)] [(5, .box [.own 1000, .own 1001, .own 1002]), (1000, .vec 1 ((([] : List Int)).map Ap)), (1001, .vec 1 ((([] : List Int)).map Ap)), (1002, .vec 1 ((([] : List Int)).map C8))] rfl rfl)))) (Au ?_)
  exact ⟨⟨[_, _, _], ⟨.tmp _ _ rfl, ⟨.cellN _ _ _ _ _ _ _ rfl rfl A0 AF rfl rfl (ID rfl), tm⟩⟩, rfl⟩, ⟨rfl, rfl, rfl, tv⟩⟩
 ·refine Al (wp rfl (qm rfl (AJ BB rfl (BX rfl (Ac ?_)))))
  refine Bd h (fun h => ?_) fun h => ?_
  ·refine wq rfl (A9 Ci Hn rfl (qa rfl (qs AF rfl (qe rfl ?_))))
   obtain rfl := sj h
   refine Af ((As 5 0 2004 1 _ rfl rfl rfl rfl).trans ((As 5 1 2005 1 _ rfl rfl rfl rfl).trans ((As 5 2 2006 1 _ rfl rfl rfl rfl).trans (sm [(1000, 2004), (1001, 2005), (1002, 2006)] [(4, iD 0), (5, oD (.ptr 5 0)), (6, iD 10)] [(5, .box [.own 1000, .own 1001, .own 1002]), (1000, .vec 1 ((([] : List Int)).map Ap)), (1001, .vec 1 ((([] : List Int)).map Ap)), (1002, .vec 1 ((([] : List Int)).map C8))] rfl rfl)))) (Au ?_)
   exact ⟨⟨[_, _, _], ⟨.tmp _ _ rfl, ⟨.cellN _ _ _ _ _ _ _ rfl rfl A0 AF rfl rfl (ID rfl), tm⟩⟩, rfl⟩, ⟨rfl, rfl, rfl, tv⟩⟩
  ·refine Al (wq rfl (qa rfl (qa rfl (Ac (wp rfl (qm rfl (AJ BB rfl (qm rfl (Ac ?_)))))))))
   refine AH (L := FB N p0 p1) h (fun v4 => mk [(1, pD (.sl (p1.map Ar))), (2, oD (.ptr 2 0)), (5, oD (.ptr 5 0)), (8, iD v4.1), (9, iD v4.2.1), (27, pD (.sl (p1.map Ar))), (28, iD ((p1.length : Int))), (29, iD v4.2.2)] [(2, .box (Ag p0)), (5, .box [.pure (.nil0), .pure (.nil0), .pure (.nil0)])]) (fun v5 => mk [(1, pD (.sl (p1.map Ar))), (5, oD (.ptr 5 0)), (8, iD v5.1), (9, iD v5.2)] [(5, .box [.pure (.nil0), .pure (.nil0), .pure (.nil0)])]) (fun _ _ => rfl) (sm [] _ _ rfl rfl) (fun j4 n4 v4 h => ?_) (fun v5 s h hs => ?_)
   ·unfold FB at h
    refine wq rfl (AT rfl (Ac (AN ?_)))
    refine Bd h (fun h => ?_) fun h => ?_
    ·refine Al ?_
     refine AR h (fun v7 => mk [(1, pD (.sl (p1.map Ar))), (2, oD (.ptr 2 0)), (5, oD (.ptr 5 0)), (8, iD v7.1), (9, iD v7.2), (27, pD (.sl (p1.map Ar))), (28, iD ((p1.length : Int))), (29, iD v4.2.2)] [(2, .box (Ag p0)), (5, .box [.pure (.nil0), .pure (.nil0), .pure (.nil0)])]) (fun j7 h => ?_) (fun v7 h => ?_)
     ·refine AL (wq rfl (qm rfl ?_))
      refine BT h fun v8 a8 b8 h => qi BB AF a8 (Ae b8) rfl (qK A0 AF rfl (qz Ci rfl (qa rfl (qs AF rfl (Ac (wp rfl (qL C0 Cx rfl (qL A0 AF rfl ?_))))))))
      refine BY h fun v9 a9 h => Ay [] (Io N p0 v8 v9 a9) WR rfl (qa rfl (Ac (wq rfl (qm rfl (BZ rfl (Ac ?_))))))
      refine Bd h (fun h => ?_) fun h => ?_
      ·refine wq rfl (A9 Ci Hn rfl (qm rfl (qa rfl (qs AF rfl (qe rfl ?_)))))
       obtain rfl := sj h
       refine Af ((As 5 0 2007 1 _ rfl rfl rfl rfl).trans ((As 5 1 2008 1 _ rfl rfl rfl rfl).trans ((As 5 2 2009 1 _ rfl rfl rfl rfl).trans (sm [(1000, 2007), (1001, 2008), (1002, 2009)] [(4, iD 0), (5, oD (.ptr 5 0)), (6, iD v9)] [(5, .box [.own 1000, .own 1001, .own 1002]), (1000, .vec 1 ((([] : List Int)).map Ap)), (1001, .vec 1 ((([] : List Int)).map Ap)), (1002, .vec 1 ((([] : List Int)).map C8))] rfl rfl)))) (Au ?_)
       exact ⟨⟨[_, _, _], ⟨.tmp _ _ rfl, ⟨.cellN _ _ _ _ _ _ _ rfl rfl A0 AF rfl rfl (ID rfl), tm⟩⟩, rfl⟩, ⟨rfl, rfl, rfl, tv⟩⟩
      ·refine Al (wq rfl (qa rfl (Ac (wp rfl (qf HO rfl (ql A1 rfl (AJ Ax rfl (qm rfl (Ac ?_)))))))))
       refine AH (L := Fl N p0 v8) h (fun v11 => mk [(1, pD (.sl (p1.map Ar))), (2, oD (.ptr 2 0)), (5, oD (.ptr 5 0)), (8, iD v4.1), (9, iD v4.2.1), (10, iD v4.2.2), (11, oD (.ptr 11 0)), (13, iD v11.1), (27, pD (.sl (p1.map Ar))), (28, iD ((p1.length : Int))), (29, iD v4.2.2), (42, pD (.sl (p0.fi.map Ap))), (43, iD ((p0.fi.length : Int))), (44, iD v11.2)] [(2, .box (Ag p0)), (5, .box [.pure (.nil0), .pure (.nil0), .pure (.nil0)]), (11, .box (AB v8))]) (fun v12 => mk [(1, pD (.sl (p1.map Ar))), (2, oD (.ptr 2 0)), (5, oD (.ptr 5 0)), (8, iD v4.1), (9, iD v4.2.1), (10, iD v4.2.2), (13, iD v12), (27, pD (.sl (p1.map Ar))), (28, iD ((p1.length : Int))), (29, iD v4.2.2)] [(2, .box (Ag p0)), (5, .box [.pure (.nil0), .pure (.nil0), .pure (.nil0)])]) (fun _ _ => rfl) (sm [] _ _ rfl rfl) (fun j11 n11 v11 h => ?_) (fun v12 s h hs => ?_)
       ·unfold Fl at h
        refine wq rfl (AT rfl (Ac (AN ?_)))
        refine Bd h (fun h => ?_) fun h => ?_
        ·refine Al ?_
         refine AR h (fun v14 => mk [(1, pD (.sl (p1.map Ar))), (2, oD (.ptr 2 0)), (5, oD (.ptr 5 0)), (8, iD v4.1), (9, iD v4.2.1), (10, iD v4.2.2), (11, oD (.ptr 11 0)), (13, iD v14), (27, pD (.sl (p1.map Ar))), (28, iD ((p1.length : Int))), (29, iD v4.2.2), (42, pD (.sl (p0.fi.map Ap))), (43, iD ((p0.fi.length : Int))), (44, iD v11.2)] [(2, .box (Ag p0)), (5, .box [.pure (.nil0), .pure (.nil0), .pure (.nil0)]), (11, .box (AB v8))]) (fun j14 h => ?_) (fun v14 h => ?_)
         ·refine AL (wq rfl (qm rfl ?_))
          refine BT h fun v15 a15 b15 h => qi Ax Da a15 (Ae b15) rfl (qk BW rfl (qa rfl (qe rfl ?_)))
          refine AR h (fun v16 => mk [(1, pD (.sl (p1.map Ar))), (2, oD (.ptr 2 0)), (5, oD (.ptr 5 0)), (8, iD v4.1), (9, iD v4.2.1), (10, iD v4.2.2), (11, oD (.ptr 11 0)), (13, iD v11.1), (27, pD (.sl (p1.map Ar))), (28, iD ((p1.length : Int))), (29, iD v4.2.2), (42, pD (.sl (p0.fi.map Ap))), (43, iD ((p0.fi.length : Int))), (44, iD v11.2), (63, bD v16)] [(2, .box (Ag p0)), (5, .box [.pure (.nil0), .pure (.nil0), .pure (.nil0)]), (11, .box (AB v8))]) (fun j16 h => ?_) (fun v16 h => ?_)
          ·refine Ai Az rfl (qf CE rfl (ql A1 rfl (qm rfl ?_)))
           refine BT h fun v17 a17 b17 h => qi Ax Da a17 (Ae b17) rfl (qk BW rfl (qm rfl (BX rfl (qm rfl ?_))))
           refine Ec 56 h rfl (fun h => ?_) fun h => ?_
           ·refine qf Br rfl (ql A1 rfl (qm rfl ?_))
            refine BT h fun v19 a19 b19 h => qi Ax Da a19 (Ae b19) rfl (qk BW rfl (AT rfl (qp rfl (Ac ?_))))
            exact sn [] h
           ·refine qw 6 rfl (qp rfl (Ac ?_))
            exact sn [] h
          ·refine Bd h (fun h => ?_) fun h => ?_
           ·refine Ai Az rfl (qm rfl (AZ rfl (qe rfl ?_)))
            exact sn [] h
           ·refine Al ?_
            exact sn [] h
         ·refine Ai Az rfl (AZ rfl (qm rfl (Ac ?_)))
          exact sn [] h
        ·refine AS ?_
         exact sn [] h
       ·refine Af hs (wq rfl (qw 2 rfl (Gt rfl (Ac ?_))))
        refine Bd h (fun h => ?_) fun h => ?_
        ·refine Ai Az rfl (qw 2 rfl (qa rfl (qe rfl ?_)))
         exact sn [] h
        ·refine Al ?_
         exact sn [] h
     ·refine Ai Az rfl (AZ rfl (qm rfl (Ac ?_)))
      exact sn [] h
    ·refine AS ?_
     exact sn [] h
   ·refine Af hs (wq rfl (qw 2 rfl ?_))
    refine BT h fun v22 a22 b22 h => qi BB AF a22 (Ae b22) rfl (qK A0 AF rfl (qz Ci rfl (qs AF rfl (Ac (wq rfl (qm rfl (qf CE rfl (ql A1 rfl ?_))))))))
    refine BY h fun v23 a23 h => Ay [2010] (CY N v22.fd v23 a23) TT rfl (qf Br rfl (ql A1 rfl ?_))
    refine BY h fun v24 a24 h => Ay [2011] (CY N v22.fa v24 a24) TT rfl (qf CI rfl (ql Hg rfl ?_))
    refine BY h fun v25 a25 h => Ay [2012] (Ey N v22.fe v25 a25) Zy rfl (A9 Ci Hn rfl (qa rfl (qs AF rfl (qa rfl (AK (by kernel_rfl) ?_)))))
    obtain rfl := sj h
    refine Af (sm [(1000, 2010), (1001, 2011), (1002, 2012)] [(4, iD v5.1), (5, oD (.ptr 5 0)), (6, iD 0)] [(5, .box [.own 1000, .own 1001, .own 1002]), (1000, .vec 1 (v23.map Ap)), (1001, .vec 1 (v24.map Ap)), (1002, .vec 1 (v25.map C8))] rfl rfl) (Au ?_)
    exact ⟨⟨[_, _, _], ⟨.tmp _ _ rfl, ⟨.cellN _ _ _ _ _ _ _ rfl rfl A0 AF rfl rfl (ID rfl), tm⟩⟩, rfl⟩, ⟨rfl, rfl, rfl, tv⟩⟩
theorem GU (N : Nat) (p0 : Ab) (p1 : Ab) (r : Bool) (h : Dp N p0 p1 = some r) : Av zA0 27 [.e (.agg (AB p0)), .e (.agg (AB p1))] [] (bD r) := by
 unfold Dp at h
 refine cw (n := 9) (rs := [.tmp 4]) Tryz.func27 fun w0 S0 => ?_
 refine wq rfl (qb rfl (qb rfl (qa rfl (Ac (wq rfl (qL A0 AF rfl (qL A0 AF rfl ?_)))))))
 refine BY h fun v1 a1 h => Ay [] (Gp N p0 p1 v1 a1) ZC rfl (BX rfl (qe rfl ?_))
 obtain rfl := sj h
 refine Af (sm [] [(4, bD ((v1 == 0)))] [] rfl rfl) (Au ?_)
 exact ⟨⟨[_], tm, rfl⟩, tv⟩
theorem Mb (N : Nat) (p0 : List Ab) (p1 : List Ab) (r : Bool) (h : GX N p0 p1 = some r) : Av zA0 14 [pD (.sl (p0.map Ar)), pD (.sl (p1.map Ar))] [] (bD r) := by
 unfold GX at h
 refine cw (n := 27) (rs := [.tmp 4]) Tryz.func14 fun w0 S0 => ?_
 refine wq rfl (qa rfl (Ac (wp rfl (qm rfl (AJ BB rfl (qm rfl (AJ BB rfl (BZ rfl (Ac ?_)))))))))
 refine Bd h (fun h => ?_) fun h => ?_
 ·refine wq rfl (qe rfl ?_)
  obtain rfl := sj h
  refine Af (sm [] [(4, bD false)] [] rfl rfl) (Au ?_)
  exact ⟨⟨[_], tm, rfl⟩, tv⟩
 ·refine Al (wp rfl (qe rfl ?_))
  refine AH (L := E3 N p0 p1) h (fun v2 => mk [(0, pD (.sl (p0.map Ar))), (1, pD (.sl (p1.map Ar))), (5, iD v2)] []) (fun v3 => mk [] []) (fun _ _ => rfl) (sm [] _ _ rfl rfl) (fun j2 n2 v2 h => ?_) (fun v3 s h hs => ?_)
  ·unfold E3 at h
   refine wp rfl (qw 2 rfl (AJ BB rfl (AT rfl (Ac ?_))))
   refine Bd h (fun h => ?_) fun h => ?_
   ·refine Al (AN (AL (wq rfl (qw 2 rfl ?_))))
    refine BT h fun v5 a5 b5 h => qi BB AF a5 (Ae b5) rfl (qK A0 AF rfl (qw 2 rfl ?_))
    refine BT h fun v6 a6 b6 h => qi BB AF a6 (Ae b6) rfl (qK A0 AF rfl ?_)
    refine BY h fun v7 a7 h => Ay [] (GU N v5 v6 v7 a7) ZB rfl (CF rfl (AK (by kernel_rfl) ?_))
    refine Bd h (fun h => ?_) fun h => ?_
    ·refine wq rfl (qe rfl ?_)
     obtain rfl := sj h
     refine Af (sm [] [(4, bD false)] [] rfl rfl) (Au ?_)
     exact ⟨⟨[_], tm, rfl⟩, tv⟩
    ·refine Al (Ai Az rfl (qm rfl (AZ rfl (qe rfl ?_))))
     exact sn [] h
   ·refine AS ?_
    exact sn [] h
  ·refine Af hs (wq rfl (qe rfl ?_))
   obtain rfl := sj h
   refine Af (sm [] [(4, bD true)] [] rfl rfl) (Au ?_)
   exact ⟨⟨[_], tm, rfl⟩, tv⟩
theorem Fn (N : Nat) (p0 : List Ab) (p1 : Ab) (p2 : (Ab × Ab) → Option Int) (r : Int × Bool) (h : Cg N p0 p1 p2 = some r) : Av zA0 78 [pD (.sl (p0.map Ar)), .e (.agg (AB p1)), oD (.clo (HJ (Vm true Ar true Ar) Ws p2))] [] (.tup [.one (iC r.1), .one (.pure (.val (.bool r.2)))]) := by
 unfold Cg at h
 refine cw (n := 49) (rs := [.tmp 6, .tmp 7]) Tryz.func78 fun w0 S0 => ?_
 refine wq rfl (qb rfl (qa rfl (qa rfl (Ac (wq rfl (qm rfl (AJ BB rfl (qa rfl (Ac (wq rfl (qm rfl (qa rfl (qa rfl (Ac (AN ?_)))))))))))))))
 refine AH (L := AX N p0 p1 p2) h (fun v1 => mk [(0, pD (.sl (p0.map Ar))), (2, oD (.clo (HJ (Vm true Ar true Ar) Ws p2))), (4, oD (.ptr 4 0)), (8, iD ((p0.length : Int))), (9, iD v1.1), (10, iD v1.2)] [(4, .box (AB p1))]) (fun v2 => mk [(0, pD (.sl (p0.map Ar))), (2, oD (.clo (HJ (Vm true Ar true Ar) Ws p2))), (4, oD (.ptr 4 0)), (8, iD ((p0.length : Int))), (9, iD v2)] [(4, .box (AB p1))]) (fun _ _ => rfl) (sm [] _ _ rfl rfl) (fun j1 n1 v1 h => ?_) (fun v2 s h hs => ?_)
 ·unfold AX at h
  refine wp rfl (qw 2 rfl (AT rfl (Ac ?_)))
  refine Bd h (fun h => ?_) fun h => ?_
  ·refine Al (AL (wq rfl (qw 2 rfl (AZ rfl (Jk bj S7 rfl (Jv rfl (by decide) (Jk Ui Yh rfl (qa rfl (Ac (wq rfl (qw 3 rfl ?_)))))))))))
   refine BT h fun v4 a4 b4 h => qi BB AF a4 (Ae b4) rfl (qK A0 AF rfl (qL A0 AF rfl ?_))
   refine BY h fun v5 a5 h => J8 (ds0 := [_, _]) (ar := (Vm true Ar true Ar) ((v4, p1))) (.p rfl) rfl rfl ⟨rfl, rfl, tv⟩ rfl rfl rfl (Jy (QF _ _ _ _ IT IT) a5) ?_
   refine AT rfl (AK (by kernel_rfl) ?_)
   refine Bd h (fun h => ?_) fun h => ?_
   ·refine Ai Az rfl (qm rfl (AZ rfl (qe rfl ?_)))
    exact sn [] h
   ·refine Ai Az rfl (qm rfl (qe rfl ?_))
    exact sn [] h
  ·refine AS ?_
   exact sn [] h
 ·refine Af hs ?_
  refine AR h (fun v7 => mk [(6, iD v2), (7, bD v7)] []) (fun j7 h => ?_) (fun v7 h => ?_)
  ·refine Ai Az rfl (qw 3 rfl (AT rfl (qm rfl ?_)))
   refine Ec 39 h rfl (fun h => ?_) fun h => ?_
   ·refine qw 3 rfl ?_
    refine BT h fun v9 a9 b9 h => qi BB AF a9 (Ae b9) rfl (qK A0 AF rfl (qL A0 AF rfl ?_))
    refine BY h fun v10 a10 h => J8 (ds0 := [_, _]) (ar := (Vm true Ar true Ar) ((v9, p1))) (.g rfl rfl) rfl rfl ⟨rfl, rfl, tv⟩ rfl rfl rfl (Jy (QF _ _ _ _ IT IT) a10) ?_
    refine BX rfl (qp rfl (qa rfl (qa rfl (AK (by kernel_rfl) ?_))))
    exact sn [] h
   ·refine qw 8 rfl (qp rfl (qa rfl (qa rfl (AK (by kernel_rfl) ?_))))
    exact sn [] h
  ·obtain rfl := sj h
   refine Af (sm [] [(6, iD v2), (7, bD v7)] [] rfl rfl) (Au ?_)
   exact ⟨⟨[_, _], ⟨.tmp _ _ rfl, tm⟩, rfl⟩, tv⟩
theorem Kz (N : Nat) (p0 : List Ab) (p1 : Ab) (r : Bool) (h : GN N p0 p1 = some r) : Av zA0 47 [pD (.sl (p0.map Ar)), .e (.agg (AB p1))] [] (bD r) := by
 unfold GN at h
 refine cw (n := 14) (rs := [.tmp 4]) Tryz.func47 fun w0 S0 => ?_
 refine wq rfl (qb rfl (qa rfl (Ac (wq rfl (qm rfl (qL A0 AF rfl ?_))))))
 refine BY h fun v1 a1 h => Ay [] (Av.weak (ds' := [pD (.sl (p0.map Ar)), .e (.agg (AB p1)), oD (.fnc 46)]) (Fn N p0 p1 ((fun (x : Ab × Ab) => CK N x.1 x.2)) v1 a1) ⟨(fun _ _ _ hh => hh), (fun _ _ _ hh => hh), (fun _ _ _ hh => Re ZQ (fun ar t ht => by obtain ⟨x, r, rfl, hq, rfl⟩ := Hx ht; exact JM N x.1 x.2 r hq) hh), tv⟩) bT rfl ?_
 refine qm rfl (qx rfl (qx rfl (qa rfl (qa rfl (Ac (wq rfl (qm rfl (qe rfl ?_))))))))
 obtain rfl := sj h
 refine Af (sm [] [(4, bD v1.2)] [] rfl rfl) (Au ?_)
 exact ⟨⟨[_], tm, rfl⟩, tv⟩
theorem Ja (N : Nat) (p0 : Aa) (p1 : List Ab) (r : Bool) (h : Gj N p0 p1 = some r) : Av zA0 15 [.e (.agg (Ag p0)), pD (.sl (p1.map Ar))] [] (bD r) := by
 unfold Gj at h
 refine cw (n := 122) (rs := [.tmp 4]) Tryz.func15 fun w0 S0 => ?_
 refine wq rfl (qb rfl (qa rfl (Ac (wq rfl (qL C0 Cx rfl ?_)))))
 refine BY h fun v1 a1 h => Ay [2001, 2002, 2003] (NP N p0 v1 a1) aV rfl (qm rfl (qx rfl (qx rfl (qz Ci rfl (qs AF rfl (qa rfl (Ac (wp rfl (qm rfl (BZ rfl (Ac ?_)))))))))))
 refine Bd h (fun h => ?_) fun h => ?_
 ·refine wq rfl (qe rfl ?_)
  obtain rfl := sj h
  refine Af (sm [] [(4, bD false)] [] rfl rfl) (Au ?_)
  exact ⟨⟨[_], tm, rfl⟩, tv⟩
 ·refine Al (wp rfl (qL C0 Cx rfl (qL A0 AF rfl ?_)))
  refine BY h fun v3 a3 h => Dl [] [2001, 2002, 2003] (HD N p0 v1.1 v3 a3) WT BV rfl (qm rfl (qx rfl (qx rfl (qa rfl (qa rfl (Ac (wq rfl (qm rfl (CF rfl (Ac ?_))))))))))
  refine Bd h (fun h => ?_) fun h => ?_
  ·refine wq rfl (qm rfl (AJ BB rfl (BX rfl (qe rfl ?_))))
   obtain rfl := sj h
   refine Af (sm [] [(4, bD (((p1.length : Int) == 0)))] [] rfl rfl) (Au ?_)
   exact ⟨⟨[_], tm, rfl⟩, tv⟩
  ·refine Al (wp rfl (qm rfl (AJ BB rfl (qm rfl (Ac ?_)))))
   refine AH (L := Gb N p0 p1) h (fun v5 => mk [(1, pD (.sl (p1.map Ar))), (2, oD (.ptr 2 0)), (5, oD (.ptr 5 0)), (41, pD (.sl (p1.map Ar))), (42, iD ((p1.length : Int))), (43, iD v5)] [(2, .box (Ag p0)), (5, .box [.own 2004, .own 2005, .own 2006]), (2004, .vec 1 (v1.1.fd.map Ap)), (2005, .vec 1 (v1.1.fa.map Ap)), (2006, .vec 1 (v1.1.fe.map C8))]) (fun v6 => mk [(1, pD (.sl (p1.map Ar))), (2, oD (.ptr 2 0)), (5, oD (.ptr 5 0))] [(2, .box (Ag p0)), (5, .box [.own 2007, .own 2008, .own 2009]), (2007, .vec 1 (v1.1.fd.map Ap)), (2008, .vec 1 (v1.1.fa.map Ap)), (2009, .vec 1 (v1.1.fe.map C8))]) (fun _ _ => rfl) (sm [(2004, 2001), (2005, 2002), (2006, 2003)] _ _ rfl rfl) (fun j5 n5 v5 h => ?_) (fun v6 s h hs => ?_)
   ·unfold Gb at h
    refine wq rfl (AT rfl (Ac (AN ?_)))
    refine Bd h (fun h => ?_) fun h => ?_
    ·refine Al (AN (AL (wq rfl (qm rfl ?_))))
     refine BT h fun v8 a8 b8 h => qi BB AF a8 (Ae b8) rfl (qK A0 AF rfl (qz Ci rfl (qa rfl (qs AF rfl (Ac (AN ?_))))))
     refine AR h (fun v9 => mk [(1, pD (.sl (p1.map Ar))), (2, oD (.ptr 2 0)), (5, oD (.ptr 5 0)), (10, oD (.ptr 10 0)), (41, pD (.sl (p1.map Ar))), (42, iD ((p1.length : Int))), (43, iD v5), (59, bD v9)] [(2, .box (Ag p0)), (5, .box [.own 2010, .own 2011, .own 2012]), (10, .box (AB v8)), (2010, .vec 1 (v1.1.fd.map Ap)), (2011, .vec 1 (v1.1.fa.map Ap)), (2012, .vec 1 (v1.1.fe.map C8))]) (fun j9 h => ?_) (fun v9 h => ?_)
     ·refine Ai Az rfl (qm rfl (Gt rfl (qm rfl ?_)))
      refine Ec 50 h rfl (fun h => ?_) fun h => ?_
      ·refine qw 2 rfl (Qa rfl ?_)
       refine BT h fun v11 a11 b11 h => qi BB AF a11 (Ae b11) rfl (qK A0 AF rfl (qL A0 AF rfl ?_))
       refine BY h fun v12 a12 h => Ay [] (JM N v11 v8 v12 a12) ZQ rfl (ET rfl (qp rfl (AK (by kernel_rfl) ?_)))
       exact sn [(2010, 2004), (2011, 2005), (2012, 2006)] h
      ·refine qw 8 rfl (qp rfl (AK (by kernel_rfl) ?_))
       exact sn [(2010, 2004), (2011, 2005), (2012, 2006)] h
     ·refine Bd h (fun h => ?_) fun h => ?_
      ·refine wq rfl (qe rfl ?_)
       obtain rfl := sj h
       refine Af (sm [] [(4, bD false)] [] rfl rfl) (Au ?_)
       exact ⟨⟨[_], tm, rfl⟩, tv⟩
      ·refine Al (wq rfl (qL C0 Cx rfl (qL A0 AF rfl ?_)))
       refine BY h fun v14 a14 h => Ay [] (HD N p0 v8 v14 a14) WT rfl (qm rfl (qx rfl (qx rfl (qa rfl (qe rfl ?_)))))
       refine AR h (fun v15 => mk [(1, pD (.sl (p1.map Ar))), (2, oD (.ptr 2 0)), (5, oD (.ptr 5 0)), (41, pD (.sl (p1.map Ar))), (42, iD ((p1.length : Int))), (43, iD v5), (76, bD v15)] [(2, .box (Ag p0)), (5, .box [.own 2013, .own 2014, .own 2015]), (2013, .vec 1 (v1.1.fd.map Ap)), (2014, .vec 1 (v1.1.fa.map Ap)), (2015, .vec 1 (v1.1.fe.map C8))]) (fun j15 h => ?_) (fun v15 h => ?_)
       ·refine Ai Az rfl (qm rfl (CF rfl (qm rfl ?_)))
        refine Ec 68 h rfl (fun h => ?_) fun h => ?_
        ·refine qw 2 rfl (qp rfl (qw 4 rfl (qp rfl (Ac ?_))))
         exact sn [(2013, 2010), (2014, 2011), (2015, 2012)] h
        ·refine qm rfl (BZ rfl (qp rfl (qm rfl ?_)))
         refine Ec 72 h rfl (fun h => ?_) fun h => ?_
         ·refine qw 3 rfl (qp rfl (Ac ?_))
          exact sn [(2013, 2010), (2014, 2011), (2015, 2012)] h
         ·refine qL C0 Cx rfl (qL A0 AF rfl ?_)
          refine BY h fun v18 a18 h => Ay [] (Pe N p0 v8 v18 a18) bv rfl (qp rfl (Ac ?_))
          exact sn [(2013, 2010), (2014, 2011), (2015, 2012)] h
       ·refine Bd h (fun h => ?_) fun h => ?_
        ·refine wq rfl (qe rfl ?_)
         obtain rfl := sj h
         refine Af (sm [] [(4, bD false)] [] rfl rfl) (Au ?_)
         exact ⟨⟨[_], tm, rfl⟩, tv⟩
        ·refine Al (Ai Az rfl (AZ rfl (qm rfl (Ac ?_))))
         exact sn [(2004, 2013), (2005, 2014), (2006, 2015)] h
    ·refine AS ?_
     exact sn [(2007, 2004), (2008, 2005), (2009, 2006)] h
   ·refine Af hs (wp rfl (qm rfl (qL A0 AF rfl ?_)))
    refine BY h fun v20 a20 h => Dl [] [2007, 2008, 2009] (Kz N p1 v1.1 v20 a20) aP BV rfl (CF rfl (Ac ?_))
    refine Bd h (fun h => ?_) fun h => ?_
    ·refine wq rfl (qe rfl ?_)
     obtain rfl := sj h
     refine Af (sm [] [(4, bD false)] [] rfl rfl) (Au ?_)
     exact ⟨⟨[_], tm, rfl⟩, tv⟩
    ·refine Al (wp rfl (qm rfl (AJ BB rfl (qm rfl (Ac ?_)))))
     refine AH (L := zFS N p0 p1) h (fun v22 => mk [(1, pD (.sl (p1.map Ar))), (2, oD (.ptr 2 0)), (82, pD (.sl (p1.map Ar))), (83, iD ((p1.length : Int))), (84, iD v22)] [(2, .box (Ag p0))]) (fun v23 => mk [] []) (fun _ _ => rfl) (sm [] _ _ rfl rfl) (fun j22 n22 v22 h => ?_) (fun v23 s h hs => ?_)
     ·unfold zFS at h
      refine wq rfl (AT rfl (Ac (AN ?_)))
      refine Bd h (fun h => ?_) fun h => ?_
      ·refine Al (AN (AL (wq rfl ?_)))
       refine BT h fun v25 a25 b25 h => qi BB AF a25 (Ae b25) rfl (qK A0 AF rfl (qz Ci rfl (qs AF rfl (Ac (wq rfl (qL C0 Cx rfl (qL A0 AF rfl ?_)))))))
       refine BY h fun v26 a26 h => Ay [2016] (I3 N p0 v25 v26 a26) Za rfl (qm rfl (qx rfl (qx rfl (qa rfl (qa rfl (Ac (wq rfl (qm rfl (DQ Fj rfl (qm rfl (Ac ?_)))))))))))
       refine AH (L := FT N p0 p1 v25 v26) h (fun v27 => mk [(1, pD (.sl (p1.map Ar))), (2, oD (.ptr 2 0)), (14, oD (.ptr 14 0)), (82, pD (.sl (p1.map Ar))), (83, iD ((p1.length : Int))), (84, iD v22), (94, oD (.own 2017)), (95, iD ((v26.1.length : Int))), (96, iD v27)] [(2, .box (Ag p0)), (14, .box (AB v25)), (2017, .vec 3 (v26.1.map AM))]) (fun v28 => mk [(1, pD (.sl (p1.map Ar))), (2, oD (.ptr 2 0)), (82, pD (.sl (p1.map Ar))), (83, iD ((p1.length : Int))), (84, iD v22)] [(2, .box (Ag p0))]) (fun _ _ => rfl) (sm [(2017, 2016)] _ _ rfl rfl) (fun j27 n27 v27 h => ?_) (fun v28 s h hs => ?_)
       ·unfold FT at h
        refine wq rfl (AT rfl (Ac (AN ?_)))
        refine Bd h (fun h => ?_) fun h => ?_
        ·refine Al (AN (AL (wq rfl ?_)))
         refine BT h fun v30 a30 b30 h => qI Fj E8 a30 (Ae b30) rfl (qJ IJ E8 (Ae b30) rfl (qz JE rfl (qs E8 rfl (Ac (wq rfl (qL C0 Cx rfl (qL A0 AF rfl (qL IJ E8 rfl ?_))))))))
         refine BY h fun v31 a31 h => Ay [2018, 2019, 2020] (Kj N p0 v25 v30 v31 a31) Zs rfl (qm rfl (qx rfl (qx rfl (qz Ci rfl (qs AF rfl (qa rfl (Ac (wq rfl (qL C0 Cx rfl (qL A0 AF rfl ?_))))))))))
         refine BY h fun v32 a32 h => Dl [] [2018, 2019, 2020] (HD N p0 v31.1 v32 a32) WT BV rfl (qm rfl (qx rfl (qx rfl (qa rfl (qe rfl ?_)))))
         refine AR h (fun v33 => mk [(1, pD (.sl (p1.map Ar))), (2, oD (.ptr 2 0)), (14, oD (.ptr 14 0)), (82, pD (.sl (p1.map Ar))), (83, iD ((p1.length : Int))), (84, iD v22), (94, oD (.own 2021)), (95, iD ((v26.1.length : Int))), (96, iD v27), (119, bD v33)] [(2, .box (Ag p0)), (14, .box (AB v25)), (2021, .vec 3 (v26.1.map AM))]) (fun j33 h => ?_) (fun v33 h => ?_)
         ·refine Ai Az rfl (qw 2 rfl ?_)
          refine Ec 114 h rfl (fun h => ?_) fun h => ?_
          ·refine qm rfl (qL A0 AF rfl ?_)
           refine BY h fun v35 a35 h => Dl [] [2018, 2019, 2020] (Kz N p1 v31.1 v35 a35) aP BV rfl (CF rfl (qp rfl (Ac ?_)))
           exact sn [(2021, 2017)] h
          ·refine qw 4 rfl (qp rfl (Ac ?_))
           exact sn [(2021, 2017)] h
         ·refine Bd h (fun h => ?_) fun h => ?_
          ·refine wq rfl (qe rfl ?_)
           obtain rfl := sj h
           refine Af (sm [] [(4, bD false)] [] rfl rfl) (Au ?_)
           exact ⟨⟨[_], tm, rfl⟩, tv⟩
          ·refine Al (Ai Az rfl (AZ rfl (qm rfl (Ac ?_))))
           exact sn [(2017, 2021)] h
        ·refine AS ?_
         exact sn [] h
       ·refine Af hs (Ai Az rfl (AZ rfl (qm rfl (Ac ?_))))
        exact sn [] h
      ·refine AS ?_
       exact sn [] h
     ·refine Af hs (wq rfl (qe rfl ?_))
      obtain rfl := sj h
      refine Af (sm [] [(4, bD true)] [] rfl rfl) (Au ?_)
      exact ⟨⟨[_], tm, rfl⟩, tv⟩
theorem JD (N : Nat) (p0 : List Ad) (p1 : List Ad) (r : Bool) (h : Fq N p0 p1 = some r) : Av zA0 24 [pD (.sl (p0.map Ao)), pD (.sl (p1.map Ao))] [] (bD r) := by
 unfold Fq at h
 refine cw (n := 26) (rs := [.tmp 4]) Tryz.func24 fun w0 S0 => ?_
 refine wq rfl (qa rfl (Ac (wp rfl (qm rfl (AJ Ed rfl (qm rfl (AJ Ed rfl (BZ rfl (Ac ?_)))))))))
 refine Bd h (fun h => ?_) fun h => ?_
 ·refine wq rfl (qe rfl ?_)
  obtain rfl := sj h
  refine Af (sm [] [(4, bD false)] [] rfl rfl) (Au ?_)
  exact ⟨⟨[_], tm, rfl⟩, tv⟩
 ·refine Al (wp rfl (qe rfl ?_))
  refine AH (L := DU N p0 p1) h (fun v2 => mk [(0, pD (.sl (p0.map Ao))), (1, pD (.sl (p1.map Ao))), (5, iD v2)] []) (fun v3 => mk [] []) (fun _ _ => rfl) (sm [] _ _ rfl rfl) (fun j2 n2 v2 h => ?_) (fun v3 s h hs => ?_)
  ·unfold DU at h
   refine wp rfl (qw 2 rfl (AJ Ed rfl (AT rfl (Ac ?_))))
   refine Bd h (fun h => ?_) fun h => ?_
   ·refine Al (AN (AL (wq rfl (qw 2 rfl ?_))))
    refine BT h fun v5 a5 b5 h => qi Ed E2 a5 (Ae b5) rfl (qK KE E2 rfl (qw 2 rfl ?_))
    refine BT h fun v6 a6 b6 h => qi Ed E2 a6 (Ae b6) rfl (qK KE E2 rfl ?_)
    refine YA [.int .i64 v5.fr, .int .i64 v5.fq, .int .i64 v5.fu] [.int .i64 v6.fr, .int .i64 v6.fq, .int .i64 v6.fu] (.p rfl) rfl rfl T7 rfl ?_
    refine AK (by kernel_rfl) ?_
    refine Bd h (fun h => ?_) fun h => ?_
    ·refine wq rfl (qe rfl ?_)
     obtain rfl := sj h
     refine Af (sm [] [(4, bD false)] [] rfl rfl) (Au ?_)
     exact ⟨⟨[_], tm, rfl⟩, tv⟩
    ·refine Al (Ai Az rfl (qm rfl (AZ rfl (qe rfl ?_))))
     exact sn [] h
   ·refine AS ?_
    exact sn [] h
  ·refine Af hs (wq rfl (qe rfl ?_))
   obtain rfl := sj h
   refine Af (sm [] [(4, bD true)] [] rfl rfl) (Au ?_)
   exact ⟨⟨[_], tm, rfl⟩, tv⟩
theorem IB (N : Nat) (r : Bool) (h : D3 N = some r) : Av zA0 11 [] [] (bD r) := by
 unfold D3 at h
 refine cw (n := 123) (rs := [.tmp 0]) Tryz.func11 fun w0 S0 => ?_
 refine wq rfl (qa rfl (Ac (wq rfl (DI Ax Da JZ rfl (DI Ax Da JZ rfl (DI Dj F3 OY rfl (A9 Ci Hn rfl (qz Ci rfl (qs AF rfl (Ac (wq rfl (DI Ax Da JZ rfl (DI Ax Da JZ rfl (DI Dj F3 OY rfl (A9 Ci Hn rfl (qz Ci rfl (qs AF rfl (Ac (wq rfl ?_)))))))))))))))))))
 refine BY h fun v1 a1 h => Ay [2001, 2002, 2003, 2004] (C1 N v1 a1) TM rfl (Dh (AW 2001 _ _ rfl rfl) (Dh (AW 2002 _ _ rfl rfl) (Dh (AW 2003 _ _ rfl rfl) (Dh (AW 2004 _ _ rfl rfl) ?_))))
 refine BY h fun v2 a2 h => Ay [2005] (K2 N v1 v2 a2) aN rfl (qm rfl (qx rfl (qx rfl (qa rfl (qa rfl (Ac (wq rfl ?_)))))))
 refine BY h fun v3 a3 h => Ay [2006, 2007, 2008, 2009] (C1 N v3 a3) TM rfl (qm rfl (Dh (AW 2006 _ _ rfl rfl) (Dh (AW 2007 _ _ rfl rfl) (Dh (AW 2008 _ _ rfl rfl) (Dh (AW 2009 _ _ rfl rfl) (Dh (AW 2005 _ _ rfl rfl) ?_))))))
 refine BY h fun v4 a4 h => Ay [2010] (KA N v3 v2.1 v4 a4) aU rfl (qm rfl (qx rfl (qx rfl (qa rfl (qa rfl (Ac (wq rfl ?_)))))))
 refine BY h fun v5 a5 h => Ay [2011, 2012, 2013, 2014] (C1 N v5 a5) TM rfl (qm rfl ?_)
 refine BY h fun v6 a6 h => Dl [2015] [2011, 2012, 2013, 2014] (J0 N v5 v2.1 v6 a6) aQ (H7 (fun _ => rfl) BV) rfl (qm rfl (qx rfl (qx rfl (qa rfl (qa rfl (Ac (wq rfl ?_)))))))
 refine BY h fun v7 a7 h => Ay [2016, 2017, 2018, 2019] (C1 N v7 a7) TM rfl (qm rfl ?_)
 refine BY h fun v8 a8 h => Dl [2020, 2021, 2022] [2016, 2017, 2018, 2019] (M7 N v7 v2.1 v8 a8) cI (H7 (fun _ => rfl) (H7 (fun _ => rfl) (H7 (fun _ => rfl) BV))) rfl (qm rfl (qx rfl (qx rfl (qx rfl (qz Ci rfl (qa rfl (qs AF rfl (qa rfl (Ac (wq rfl (A9 IP Ty rfl (qz IP rfl (qs E2 rfl (Ac ?_))))))))))))))
 refine AR h (fun v9 => mk [(1, oD (.ptr 1 0)), (2, oD (.ptr 2 0)), (3, pD (.sl (v2.1.map Ar))), (5, oD (.own 2032)), (7, oD (.own 2033)), (9, iD v8.1), (10, oD (.ptr 10 0)), (12, oD (.ptr 12 0)), (13, bD v9)] [(1, .box [.own 2023, .own 2024, .own 2025]), (2, .box [.own 2026, .own 2027, .own 2028]), (10, .box [.own 2029, .own 2030, .own 2031]), (12, .box [iC 0, iC 1, iC 0]), (2023, .vec 1 ((([0] : List Int)).map Ap)), (2024, .vec 1 ((([(-1)] : List Int)).map Ap)), (2025, .vec 1 ((([0] : List Int)).map C8)), (2026, .vec 1 ((([1] : List Int)).map Ap)), (2027, .vec 1 ((([(-1)] : List Int)).map Ap)), (2028, .vec 1 ((([0] : List Int)).map C8)), (2029, .vec 1 (v8.2.1.fd.map Ap)), (2030, .vec 1 (v8.2.1.fa.map Ap)), (2031, .vec 1 (v8.2.1.fe.map C8)), (2032, .vec 9 (v4.1.map D5)), (2033, .vec 3 (v6.1.map Ao))]) (fun j9 h => ?_) (fun v9 h => ?_)
 ·refine Ai Az rfl (qm rfl (BX rfl (qm rfl ?_)))
  refine Ec 49 h rfl (fun h => ?_) fun h => ?_
  ·refine qm rfl (BX rfl (qp rfl (qm rfl ?_)))
   refine Ec 53 h rfl (fun h => ?_) fun h => ?_
   ·refine qm rfl (BX rfl (qp rfl (qm rfl ?_)))
    refine Ec 57 h rfl (fun h => ?_) fun h => ?_
    ·refine qm rfl (BX rfl (qp rfl (qe rfl ?_)))
     exact sn [(2023, 14), (2024, 15), (2025, 16), (2026, 18), (2027, 19), (2028, 20), (2029, 2020), (2030, 2021), (2031, 2022), (2032, 2010), (2033, 2015)] h
    ·refine qw 2 rfl (qp rfl (qe rfl ?_))
     exact sn [(2023, 14), (2024, 15), (2025, 16), (2026, 18), (2027, 19), (2028, 20), (2029, 2020), (2030, 2021), (2031, 2022), (2032, 2010), (2033, 2015)] h
   ·refine qw 2 rfl (qp rfl (qw 3 rfl (qp rfl (qe rfl ?_))))
    exact sn [(2023, 14), (2024, 15), (2025, 16), (2026, 18), (2027, 19), (2028, 20), (2029, 2020), (2030, 2021), (2031, 2022), (2032, 2010), (2033, 2015)] h
  ·refine qw 2 rfl (qp rfl (qw 3 rfl (qp rfl (qw 3 rfl (qp rfl (qe rfl ?_))))))
   exact sn [(2023, 14), (2024, 15), (2025, 16), (2026, 18), (2027, 19), (2028, 20), (2029, 2020), (2030, 2021), (2031, 2022), (2032, 2010), (2033, 2015)] h
 ·refine AR h (fun v13 => mk [(1, oD (.ptr 1 0)), (5, oD (.own 2037)), (7, oD (.own 2038)), (9, iD v8.1), (10, oD (.ptr 10 0)), (12, oD (.ptr 12 0)), (13, bD v13)] [(1, .box [sC ((([0] : List Int)).map Ap), sC ((([(-1)] : List Int)).map Ap), sC ((([0] : List Int)).map C8)]), (10, .box [.own 2034, .own 2035, .own 2036]), (12, .box [iC 0, iC 1, iC 0]), (2034, .vec 1 (v8.2.1.fd.map Ap)), (2035, .vec 1 (v8.2.1.fa.map Ap)), (2036, .vec 1 (v8.2.1.fe.map C8)), (2037, .vec 9 (v4.1.map D5)), (2038, .vec 3 (v6.1.map Ao))]) (fun j13 h => ?_) (fun v13 h => ?_)
  ·refine Af (AW 2023 _ _ rfl rfl) (Af (AW 2024 _ _ rfl rfl) (Af (AW 2025 _ _ rfl rfl) (Af (AW 2026 _ _ rfl rfl) (Af (AW 2027 _ _ rfl rfl) (Af (AW 2028 _ _ rfl rfl) (Ai Az rfl (qw 2 rfl ?_)))))))
   refine Ec 62 h rfl (fun h => ?_) fun h => ?_
   ·refine qm rfl (qL A0 AF rfl (DI BB AF Ci rfl ?_))
    refine BY h fun v15 a15 h => Dl [] [65] (Mb N v2.1 (([(Ab.mk (([0] : List Int)) (([(-1)] : List Int)) (([0] : List Int)))] : List Ab)) v15 a15) cK BV rfl (qp rfl (qm rfl ?_))
    refine Ec 68 h rfl (fun h => ?_) fun h => ?_
    ·refine BY h fun v17 a17 h => Ay [2039, 2040, 2041, 2042] (C1 N v17 a17) TM rfl (qm rfl ?_)
     refine BY h fun v18 a18 h => Dl [] [2039, 2040, 2041, 2042] (Ja N v17 v2.1 v18 a18) Zf BV rfl (qp rfl (qm rfl ?_))
     refine Ec 73 h rfl (fun h => ?_) fun h => ?_
     ·refine BY h fun v20 a20 h => Ay [2043, 2044, 2045, 2046] (C1 N v20 a20) TM rfl ?_
      refine BY h fun v21 a21 h => Dl [] [2043, 2044, 2045, 2046] (Ja N v20 (([] : List Ab)) v21 a21) Zf BV rfl (CF rfl (qp rfl (qm rfl ?_)))
      refine Ec 78 h rfl (fun h => ?_) fun h => ?_
      ·refine BY h fun v23 a23 h => Ay [2047, 2048, 2049, 2050] (C1 N v23 a23) TM rfl (qL A0 AF rfl (qL A0 AF rfl (DI BB AF Ci rfl ?_)))
       refine BY h fun v24 a24 h => Dl [] [2047, 2048, 2049, 2050, 82] (Ja N v23 (([(Ab.mk (([0] : List Int)) (([(-1)] : List Int)) (([0] : List Int))), (Ab.mk (([1] : List Int)) (([(-1)] : List Int)) (([0] : List Int)))] : List Ab)) v24 a24) Zf BV rfl (CF rfl (qp rfl (qa rfl (AK (by kernel_rfl) ?_))))
       exact sn [(2034, 2029), (2035, 2030), (2036, 2031), (2037, 2032), (2038, 2033)] h
      ·refine qw 6 rfl (qp rfl (qa rfl (AK (by kernel_rfl) ?_)))
       exact sn [(2034, 2029), (2035, 2030), (2036, 2031), (2037, 2032), (2038, 2033)] h
     ·refine qw 3 rfl (qp rfl (qw 7 rfl (qp rfl (qa rfl (AK (by kernel_rfl) ?_)))))
      exact sn [(2034, 2029), (2035, 2030), (2036, 2031), (2037, 2032), (2038, 2033)] h
    ·refine qw 3 rfl (qp rfl (qw 4 rfl (qp rfl (qw 7 rfl (qp rfl (qa rfl (AK (by kernel_rfl) ?_)))))))
     exact sn [(2034, 2029), (2035, 2030), (2036, 2031), (2037, 2032), (2038, 2033)] h
   ·refine qw 4 rfl (qp rfl (qw 4 rfl (qp rfl (qw 4 rfl (qp rfl (qw 7 rfl (qp rfl (qa rfl (AK (by kernel_rfl) ?_)))))))))
    exact sn [(2034, 2029), (2035, 2030), (2036, 2031), (2037, 2032), (2038, 2033)] h
  ·refine AR h (fun v25 => mk [(0, bD v25)] []) (fun j25 h => ?_) (fun v25 h => ?_)
   ·refine Ai Az rfl (qw 2 rfl ?_)
    refine Ec 87 h rfl (fun h => ?_) fun h => ?_
    ·refine qm rfl (DQ LG rfl (BX rfl (qp rfl (qm rfl ?_))))
     refine Ec 92 h rfl (fun h => ?_) fun h => ?_
     ·refine qm rfl ?_
      refine BT h fun v28 a28 b28 h => qI LG SU a28 (Ae b28) rfl (qh XD rfl ?_)
      refine S5 (.g rfl rfl) rfl IJ E8 rfl (Ae b28) rfl rfl (by decide) ?_
      refine A9 JE Wd rfl ?_
      refine VG [.int .i64 v28.fy.ff, .int .i64 v28.fy.fj, .int .i64 v28.fy.fp] [.int .i64 1, .int .i64 0, .int .i64 1] (.g rfl rfl) rfl rfl ap rfl ?_
      refine qp rfl (qm rfl ?_)
      refine Ec 100 h rfl (fun h => ?_) fun h => ?_
      ·refine qm rfl ?_
       refine BT h fun v30 a30 b30 h => qI LG SU a30 (Ae b30) rfl (qh Ud rfl ?_)
       refine S5 (.g rfl rfl) rfl KE E2 rfl (Ae b30) rfl rfl (by decide) ?_
       refine qL KE E2 rfl ?_
       refine VG [.int .i64 v30.fv.fr, .int .i64 v30.fv.fq, .int .i64 v30.fv.fu] [.int .i64 0, .int .i64 1, .int .i64 0] (.g rfl rfl) rfl rfl T7 rfl ?_
       refine qp rfl (qm rfl ?_)
       refine Ec 108 h rfl (fun h => ?_) fun h => ?_
       ·refine qm rfl (qL KE E2 rfl (DI Ed E2 IP rfl ?_))
        refine BY h fun v32 a32 h => Dl [] [2038, 111] (JD N v6.1 (([(Ad.mk 0 1 0)] : List Ad)) v32 a32) bX BV rfl (qp rfl (qm rfl ?_))
        refine Ec 114 h rfl (fun h => ?_) fun h => ?_
        ·refine qm rfl (BX rfl (qp rfl (qm rfl ?_)))
         refine Ec 118 h rfl (fun h => ?_) fun h => ?_
         ·refine qL A0 AF rfl (qL A0 AF rfl ?_)
          refine BY h fun v35 a35 h => Dl [] [2034, 2035, 2036] (GU N v8.2.1 ((Ab.mk (([0] : List Int)) (([(-1)] : List Int)) (([0] : List Int)))) v35 a35) ZB BV rfl (qp rfl (qa rfl (AK (by kernel_rfl) ?_)))
          exact sn [] h
         ·refine qw 3 rfl (qp rfl (qa rfl (AK (by kernel_rfl) ?_)))
          exact sn [] h
        ·refine qw 2 rfl (qp rfl (qw 4 rfl (qp rfl (qa rfl (AK (by kernel_rfl) ?_)))))
         exact sn [] h
       ·refine qw 4 rfl (qp rfl (qw 3 rfl (qp rfl (qw 4 rfl (qp rfl (qa rfl (AK (by kernel_rfl) ?_)))))))
        exact sn [] h
      ·refine qw 6 rfl (qp rfl (qw 5 rfl (qp rfl (qw 3 rfl (qp rfl (qw 4 rfl (qp rfl (qa rfl (AK (by kernel_rfl) ?_)))))))))
       exact sn [] h
     ·refine qw 6 rfl (qp rfl (qw 7 rfl (qp rfl (qw 5 rfl (qp rfl (qw 3 rfl (qp rfl (qw 4 rfl (qp rfl (qa rfl (AK (by kernel_rfl) ?_)))))))))))
      exact sn [] h
    ·refine qw 3 rfl (qp rfl (qw 7 rfl (qp rfl (qw 7 rfl (qp rfl (qw 5 rfl (qp rfl (qw 3 rfl (qp rfl (qw 4 rfl (qp rfl (qa rfl (AK (by kernel_rfl) ?_)))))))))))))
     exact sn [] h
   ·obtain rfl := sj h
    refine Af (sm [] [(0, bD v25)] [] rfl rfl) (Au ?_)
    exact ⟨⟨[_], tm, rfl⟩, tv⟩
theorem LX (N : Nat) (p0 : Aa) (p1 : Ab) (r : Bool) (h : E1 N p0 p1 = some r) : Av zA0 43 [.e (.agg (Ag p0)), .e (.agg (AB p1))] [] (bD r) := by
 unfold E1 at h
 refine cw (n := 36) (rs := [.tmp 4]) Tryz.func43 fun w0 S0 => ?_
 refine wq rfl (qb rfl (qb rfl (qa rfl (Ac (wp rfl (qL C0 Cx rfl (qL A0 AF rfl ?_)))))))
 refine BY h fun v1 a1 h => Ay [] (Iz N p0 p1 v1 a1) bd rfl (BZ rfl (Ac ?_))
 refine Bd h (fun h => ?_) fun h => ?_
 ·refine wq rfl (qe rfl ?_)
  obtain rfl := sj h
  refine Af (sm [] [(4, bD false)] [] rfl rfl) (Au ?_)
  exact ⟨⟨[_], tm, rfl⟩, tv⟩
 ·refine Al (wp rfl (qe rfl ?_))
  refine AH (L := CW N p0 p1) h (fun v3 => mk [(2, oD (.ptr 2 0)), (3, oD (.ptr 3 0)), (5, iD v3)] [(2, .box (Ag p0)), (3, .box (AB p1))]) (fun v4 => mk [] []) (fun _ _ => rfl) (sm [] _ _ rfl rfl) (fun j3 n3 v3 h => ?_) (fun v4 s h hs => ?_)
  ·unfold CW at h
   refine wp rfl (qm rfl (qf CE rfl (ql A1 rfl (AJ Ax rfl (AT rfl (Ac ?_))))))
   refine Bd h (fun h => ?_) fun h => ?_
   ·refine Al (AN (AL ?_))
    refine AR h (fun v6 => mk [(2, oD (.ptr 2 0)), (3, oD (.ptr 3 0)), (5, iD v3), (35, bD v6)] [(2, .box (Ag p0)), (3, .box (AB p1))]) (fun j6 h => ?_) (fun v6 h => ?_)
    ·refine Ai Az rfl (qf Br rfl (ql A1 rfl (qm rfl ?_)))
     refine BT h fun v7 a7 b7 h => qi Ax Da a7 (Ae b7) rfl (qk BW rfl (ET rfl (qm rfl ?_)))
     refine Ec 23 h rfl (fun h => ?_) fun h => ?_
     ·refine qw 11 rfl (qp rfl (AK (by kernel_rfl) ?_))
      exact sn [] h
     ·refine qf CE rfl (ql A1 rfl (qm rfl ?_))
      refine BT h fun v9 a9 b9 h => qi Ax Da a9 (Ae b9) rfl (qk BW rfl (qf HO rfl (ql A1 rfl (qm rfl ?_))))
      refine BT h fun v10 a10 b10 h => qi Ax Da a10 (Ae b10) rfl (qk BW rfl (BZ rfl (qp rfl (AK (by kernel_rfl) ?_))))
      exact sn [] h
    ·refine Bd h (fun h => ?_) fun h => ?_
     ·refine wq rfl (qe rfl ?_)
      obtain rfl := sj h
      refine Af (sm [] [(4, bD false)] [] rfl rfl) (Au ?_)
      exact ⟨⟨[_], tm, rfl⟩, tv⟩
     ·refine Al (Ai Az rfl (qm rfl (AZ rfl (qe rfl ?_))))
      exact sn [] h
   ·refine AS ?_
    exact sn [] h
  ·refine Af hs (wq rfl (qe rfl ?_))
   obtain rfl := sj h
   refine Af (sm [] [(4, bD true)] [] rfl rfl) (Au ?_)
   exact ⟨⟨[_], tm, rfl⟩, tv⟩
theorem KD (N : Nat) (p0 : Aa) (p1 : List Ab) (r : Bool) (h : Eg N p0 p1 = some r) : Av zA0 13 [.e (.agg (Ag p0)), pD (.sl (p1.map Ar))] [] (bD r) := by
 unfold Eg at h
 refine cw (n := 18) (rs := [.tmp 4]) Tryz.func13 fun w0 S0 => ?_
 refine wq rfl (qb rfl (qa rfl (Ac (wp rfl (qe rfl ?_)))))
 refine AH (L := CV N p0 p1) h (fun v1 => mk [(1, pD (.sl (p1.map Ar))), (2, oD (.ptr 2 0)), (5, iD v1)] [(2, .box (Ag p0))]) (fun v2 => mk [] []) (fun _ _ => rfl) (sm [] _ _ rfl rfl) (fun j1 n1 v1 h => ?_) (fun v2 s h hs => ?_)
 ·unfold CV at h
  refine wp rfl (qw 2 rfl (AJ BB rfl (AT rfl (Ac ?_))))
  refine Bd h (fun h => ?_) fun h => ?_
  ·refine Al (AN (AL (wq rfl (qL C0 Cx rfl (qw 2 rfl ?_)))))
   refine BT h fun v4 a4 b4 h => qi BB AF a4 (Ae b4) rfl (qK A0 AF rfl ?_)
   refine BY h fun v5 a5 h => Ay [] (LX N p0 v4 v5 a5) cj rfl (AK (by kernel_rfl) ?_)
   refine Bd h (fun h => ?_) fun h => ?_
   ·refine wq rfl (qe rfl ?_)
    obtain rfl := sj h
    refine Af (sm [] [(4, bD true)] [] rfl rfl) (Au ?_)
    exact ⟨⟨[_], tm, rfl⟩, tv⟩
   ·refine Al (Ai Az rfl (qm rfl (AZ rfl (qe rfl ?_))))
    exact sn [] h
  ·refine AS ?_
   exact sn [] h
 ·refine Af hs (wq rfl (qe rfl ?_))
  obtain rfl := sj h
  refine Af (sm [] [(4, bD false)] [] rfl rfl) (Au ?_)
  exact ⟨⟨[_], tm, rfl⟩, tv⟩
theorem HF (N : Nat) (p0 : List (List Bool)) (r : (List (List Bool))) (h : Dd N p0 = some r) : Dy zA0 110 [pD (.sl (p0.map (HB eB)))] [] [.dvec 1 [.x 1 []] (r.map (HB eB))] (oD (.own 0)) := by
 unfold Dd at h
 refine Fi (n := 21) (rs := [.tmp 2]) Tryz.func110 rfl rfl rfl (Ig rfl) (Ig rfl) rfl rfl (Ig rfl) rfl (Ig rfl) fun w0 S0 GL => ?_
 refine Af (sm [] [(0, pD (.sl (p0.map (HB eB))))] [] rfl rfl) (wq rfl (qa rfl (Ac (wq rfl (qa rfl (Ac (wp rfl (qe rfl ?_))))))))
 refine AH (L := Cf N p0) h (fun v1 => mk [(0, pD (.sl (p0.map (HB eB)))), (3, oD (.own 2001)), (4, iD v1.2)] [(2001, .dvec 1 [.x 1 []] (v1.1.map (HB eB)))]) (fun v2 => mk [(3, oD (.own 2002))] [(2002, .dvec 1 [.x 1 []] (v2.map (HB eB)))]) (fun _ _ => rfl) ((Ba 3 2003 1 rfl rfl rfl).trans ((Lr 2003 1 [.x 1 []] [] [] rfl rfl).trans (sm [(2001, 2003)] _ _ rfl rfl))) (fun j1 n1 v1 h => ?_) (fun v2 s h hs => ?_)
 ·unfold Cf at h
  refine wp rfl (qw 2 rfl (AJ Fo rfl (AT rfl (Ac ?_))))
  refine Bd h (fun h => ?_) fun h => ?_
  ·refine Al (AN (AL (Ai Az rfl (qm rfl (DI FZ PQ Wc rfl (qw 2 rfl ?_))))))
   refine BT h fun v4 a4 b4 h => qi Fo La a4 (Ae b4) rfl (qk Od rfl ?_)
   refine Gf h fun c5 h => HC (f := eB) FZ FZ PQ Yb Wc (fun _ => rfl) c5 rfl ?_
   refine LP (x := .one (.own 17)) (cs := [.own 17]) (ts := [.sl (((([] : List Bool)) ++ v4).map eB)]) [.x 1 []] [(17, .vec 1 (((([] : List Bool)) ++ v4).map eB))] (.p rfl) rfl rfl rfl rfl rfl ⟨rfl, tv⟩ ⟨rfl, tv⟩ rfl rfl rfl Fo La Vy (Ig rfl) ?_
   refine Gf h fun c6 h => Qt (.p rfl) rfl rfl rfl rfl rfl (by decide) Fo Fo La YF (Ig rfl) Vy rfl (Us (f := (HB eB)) (g := (HB eB)) (xs := v1.1) (ys := (([(([] : List Bool)) ++ v4] : List (List Bool)))) c6) (Ut (HB eB) v1.1 (([(([] : List Bool)) ++ v4] : List (List Bool)))) rfl rfl ?_
   refine qa rfl (Ac (Ai Az rfl (qm rfl (AZ rfl (qe rfl ?_)))))
   exact sn [(2001, 19)] h
  ·refine AS ?_
   exact sn [(2002, 2001)] h
 ·refine Af hs (wq rfl (qm rfl (qe rfl ?_)))
  obtain rfl := sj h
  refine Af (sm [(1000, 2002)] [(2, oD (.own 1000))] [(1000, .dvec 1 [.x 1 []] (v2.map (HB eB)))] rfl rfl) (Au ?_)
  exact ⟨⟨[_], tm, rfl⟩, tv, ⟨rfl, tv⟩⟩
theorem Kq (N : Nat) (p0 : An) (p1 : Int) (p2 : Int) (r : An) (h : EV N p0 p1 p2 = some r) : Dy zA0 69 [.e (.agg (Be p0)), iD p1, iD p2] [] [.dvec 1 [.x 1 []] (r.fk.map (HB eB)), .dvec 1 [.x 1 []] (r.fo.map (HB eB))] (.e (.agg [iC r.ff, iC r.fg, iC r.fm, .pure (.val (.bool r.ft)), .own 0, .own 1])) := by
 unfold EV at h
 refine Fi (n := 20) (rs := [.cell 6 69]) Tryz.func69 rfl rfl rfl (Ig rfl) (Ig rfl) rfl rfl (Ig rfl) rfl (Ig rfl) fun w0 S0 GL => ?_
 refine Af (sm [] [(0, .e (.agg (Be p0))), (1, iD p1), (2, iD p2)] [] rfl rfl) (wq rfl (qb rfl (qz Kb rfl (Ac (wq rfl (qf F8 rfl (ql BW rfl (qw 2 rfl (qf IH rfl (ql Td rfl (qf HQ rfl (ql Jl rfl ?_))))))))))))
 refine BY h fun v1 a1 h => H9 (ds0 := [_]) [] [2001] [] (HF N p0.fk v1 a1) (.p rfl) YY rfl ⟨rfl, tv⟩ rfl rfl (by decide) tv rfl (E9 rfl) ⟨rfl, tv⟩ tv rfl rfl rfl ?_
 refine qf GI rfl (ql Jl rfl ?_)
 refine BY h fun v2 a2 h => H9 (ds0 := [_]) [] [2002] [] (HF N p0.fo v2 a2) (.p rfl) YY rfl ⟨rfl, tv⟩ rfl rfl (by decide) tv rfl (E9 rfl) ⟨rfl, tv⟩ tv rfl rfl rfl ?_
 refine A9 Kb Zo rfl (qs DR rfl (AK (by kernel_rfl) ?_))
 obtain rfl := sj h
 refine Af (sm [(1000, 2001), (1001, 2002)] [(6, oD (.ptr 6 0))] [(6, .box [iC p0.ff, iC p1, iC p2, .pure (.val (.bool p0.ft)), .own 1000, .own 1001]), (1000, .dvec 1 [.x 1 []] (v1.map (HB eB))), (1001, .dvec 1 [.x 1 []] (v2.map (HB eB)))] rfl rfl) (Au ?_)
 exact ⟨⟨[_], ⟨.cellN _ _ _ _ _ _ _ rfl rfl HT DR rfl rfl (ID rfl), tv⟩, rfl⟩, tv, ⟨rfl, rfl, tv⟩⟩
theorem JW (N : Nat) (p0 : Aa) (p1 : List Int) (p2 : List Int) (r : Aa × Int) (h : DS N p0 p1 p2 = some r) : Dy zA0 28 [.e (.agg (Ag p0)), pD (.sl (p1.map Ap)), pD (.sl (p2.map Ap))] [] [.vec 1 (r.1.fb.map Ap), .vec 1 (r.1.fh.map Ap), .vec 1 (r.1.fi.map Ap), .dvec 6 [.s, .s, .s, .s, .x 1 [.x 1 []], .x 1 [.x 1 []]] (r.1.fc.map AQ)] (.tup [.agg [.own 0, .own 1, .own 2, .own 3], .one (iC r.2)]) := by
 unfold DS at h
 refine Fi (n := 66) (rs := [.cell 6 29, .tmp 7]) Tryz.func28 rfl rfl rfl (Ig rfl) (Ig rfl) rfl rfl (Ig rfl) rfl (Ig rfl) fun w0 S0 GL => ?_
 refine Af (sm [] [(0, .e (.agg (Ag p0))), (1, pD (.sl (p1.map Ap))), (2, pD (.sl (p2.map Ap)))] [] rfl rfl) (wq rfl (qb rfl (qz Ms rfl (qa rfl (Ac (wp rfl (qL C0 Cx rfl ?_)))))))
 refine BY h fun v1 a1 h => Ay [] (Ef N p0 v1 a1) Xw rfl (qa rfl (Ac (wq rfl (qm rfl (BZ rfl (Ac ?_))))))
 refine Bd h (fun h => ?_) fun h => ?_
 ·refine wq rfl (A9 Ms W1 rfl (qm rfl (qs Cx rfl (qe rfl ?_))))
  obtain rfl := sj h
  refine Af ((As 6 0 2001 1 _ rfl rfl rfl rfl).trans ((As 6 1 2002 1 _ rfl rfl rfl rfl).trans ((As 6 2 2003 1 _ rfl rfl rfl rfl).trans ((As 6 3 2004 6 _ rfl rfl rfl rfl).trans ((Lr 2004 6 [.s, .s, .s, .s, .x 1 [.x 1 []], .x 1 [.x 1 []]] [] [] rfl rfl).trans (sm [(1000, 2001), (1001, 2002), (1002, 2003), (1003, 2004)] [(6, oD (.ptr 6 0)), (7, iD v1)] [(6, .box [.own 1000, .own 1001, .own 1002, .own 1003]), (1000, .vec 1 ((([] : List Int)).map Ap)), (1001, .vec 1 ((([] : List Int)).map Ap)), (1002, .vec 1 ((([] : List Int)).map Ap)), (1003, .dvec 6 [.s, .s, .s, .s, .x 1 [.x 1 []], .x 1 [.x 1 []]] ((([] : List An)).map AQ))] rfl rfl)))))) (Au ?_)
  exact ⟨⟨[_, _], ⟨.cellN _ _ _ _ _ _ _ rfl rfl C0 Cx rfl rfl (ID rfl), tm⟩, rfl⟩, tv, ⟨rfl, rfl, rfl, rfl, tv⟩⟩
 ·refine Al (wq rfl (DI Ax Da JZ rfl (qf Bv rfl (ql A1 rfl ?_))))
  refine Gf h fun c3 h => HC (f := Ap) Ax Ax Da Lt JZ (fun _ => rfl) c3 rfl (DI Ax Da JZ rfl (qm rfl ?_))
  refine Gf h fun c4 h => HC (f := Ap) Ax Ax Da Lt JZ (fun _ => rfl) c4 rfl (DI Ax Da JZ rfl (qm rfl ?_))
  refine Gf h fun c5 h => HC (f := Ap) Ax Ax Da Lt JZ (fun _ => rfl) c5 rfl (A9 Ms W1 rfl (qz Ms rfl (qs Cx rfl (Ac (wp rfl (qe rfl ?_))))))
  refine AH (L := B1 N p0) h (fun v6 => mk [(3, oD (.ptr 3 0)), (6, oD (.ptr 6 0)), (9, oD (.ptr 9 0)), (10, iD v6.2)] [(3, .box (Ag p0)), (6, .box [.pure (.nil0), .pure (.nil0), .pure (.nil0), .pure (.nil0)]), (9, .box [.own 2005, .own 2006, .own 2007, .own 2008]), (2005, .vec 1 (((([] : List Int)) ++ p0.fb).map Ap)), (2006, .vec 1 (((([] : List Int)) ++ p1).map Ap)), (2007, .vec 1 (((([] : List Int)) ++ p2).map Ap)), (2008, .dvec 6 [.s, .s, .s, .s, .x 1 [.x 1 []], .x 1 [.x 1 []]] (v6.1.map AQ))]) (fun v7 => mk [(6, oD (.ptr 6 0)), (9, oD (.ptr 9 0))] [(6, .box [.pure (.nil0), .pure (.nil0), .pure (.nil0), .pure (.nil0)]), (9, .box [.own 2009, .own 2010, .own 2011, .own 2012]), (2009, .vec 1 (((([] : List Int)) ++ p0.fb).map Ap)), (2010, .vec 1 (((([] : List Int)) ++ p1).map Ap)), (2011, .vec 1 (((([] : List Int)) ++ p2).map Ap)), (2012, .dvec 6 [.s, .s, .s, .s, .x 1 [.x 1 []], .x 1 [.x 1 []]] (v7.map AQ))]) (fun _ _ => rfl) ((As 9 3 2015 6 _ rfl rfl rfl rfl).trans ((Lr 2015 6 [.s, .s, .s, .s, .x 1 [.x 1 []], .x 1 [.x 1 []]] [] [] rfl rfl).trans (sm [(2005, 21), (2006, 24), (2007, 27), (2008, 2015)] _ _ rfl rfl))) (fun j6 n6 v6 h => ?_) (fun v7 s h hs => ?_)
  ·unfold B1 at h
   refine wp rfl (qm rfl (qf BU rfl (ql Gi rfl (AJ Dc rfl (AT rfl (Ac ?_))))))
   refine Bd h (fun h => ?_) fun h => ?_
   ·refine Al (AN (AL (Ai Az rfl (qf BU rfl (ql Gi rfl (qf BU rfl (ql Gi rfl (qm rfl ?_))))))))
    refine BT h fun v9 a9 b9 h => qi Dc DR a9 (Ae b9) rfl (qK HT DR rfl (qf BU rfl (ql Gi rfl (qm rfl ?_))))
    refine BT h fun v10 a10 b10 h => qi Dc DR a10 (Ae b10) rfl (qg Dk rfl (qk BW rfl (qf BU rfl (ql Gi rfl (qm rfl ?_)))))
    refine BT h fun v11 a11 b11 h => qi Dc DR a11 (Ae b11) rfl (qg Ic rfl (qk BW rfl ?_))
    refine BY h fun v12 a12 h => H9 (ds0 := [_, _, _]) [] [2013, 2014] [] (Kq N v9 v10.fg v11.fm v12 a12) (.p rfl) cD rfl ⟨rfl, rfl, rfl, tv⟩ rfl rfl (by decide) tv rfl (E9 rfl) ⟨rfl, rfl, tv⟩ tv rfl rfl rfl ?_
    refine LP (x := .agg [iC v12.ff, iC v12.fg, iC v12.fm, .pure (.val (.bool v12.ft)), .own 2013, .own 2014]) (cs := [iC v12.ff, iC v12.fg, iC v12.fm, .pure (.val (.bool v12.ft)), .own 2013, .own 2014]) (ts := [.val (.int .i64 v12.ff), .val (.int .i64 v12.fg), .val (.int .i64 v12.fm), .val (.bool v12.ft), .sl (v12.fk.map (HB eB)), .sl (v12.fo.map (HB eB))]) [.s, .s, .s, .s, .x 1 [.x 1 []], .x 1 [.x 1 []]] [(2013, .dvec 1 [.x 1 []] (v12.fk.map (HB eB))), (2014, .dvec 1 [.x 1 []] (v12.fo.map (HB eB)))] (.p rfl) rfl rfl rfl rfl rfl ⟨rfl, rfl, tv⟩ ⟨rfl, rfl, rfl, rfl, rfl, rfl, tv⟩ rfl rfl rfl Dc DR Kb (Ig rfl) ?_
    refine Gf h fun c13 h => Qt (.p rfl) rfl rfl rfl rfl rfl (by decide) Dc Dc DR YM (Ig rfl) Kb rfl (Us (f := AQ) (g := AQ) (xs := v6.1) (ys := (([v12] : List An))) c13) (Ut AQ v6.1 (([v12] : List An))) rfl rfl ?_
    refine qf BU rfl (qs Z4 rfl (AK (by kernel_rfl) (Ai Az rfl (qm rfl (AZ rfl (qe rfl ?_))))))
    exact sn [(2008, 57)] h
   ·refine AS ?_
    exact sn [(2009, 2005), (2010, 2006), (2011, 2007), (2012, 2008)] h
  ·refine Af hs (wp rfl (qL C0 Cx rfl ?_))
   refine BY h fun v14 a14 h => Dl [] [2009, 2010, 2011, 2012] (Ef N ((Aa.mk ((([] : List Int)) ++ p0.fb) ((([] : List Int)) ++ p1) ((([] : List Int)) ++ p2) v7)) v14 a14) Xw BV rfl (qa rfl (Ac (wq rfl (qm rfl (BZ rfl (Ac ?_))))))
   refine Bd h (fun h => ?_) fun h => ?_
   ·refine wq rfl (A9 Ms W1 rfl (qm rfl (qs Cx rfl (qe rfl ?_))))
    obtain rfl := sj h
    refine Af ((As 6 0 2016 1 _ rfl rfl rfl rfl).trans ((As 6 1 2017 1 _ rfl rfl rfl rfl).trans ((As 6 2 2018 1 _ rfl rfl rfl rfl).trans ((As 6 3 2019 6 _ rfl rfl rfl rfl).trans ((Lr 2019 6 [.s, .s, .s, .s, .x 1 [.x 1 []], .x 1 [.x 1 []]] [] [] rfl rfl).trans (sm [(1000, 2016), (1001, 2017), (1002, 2018), (1003, 2019)] [(6, oD (.ptr 6 0)), (7, iD v14)] [(6, .box [.own 1000, .own 1001, .own 1002, .own 1003]), (1000, .vec 1 ((([] : List Int)).map Ap)), (1001, .vec 1 ((([] : List Int)).map Ap)), (1002, .vec 1 ((([] : List Int)).map Ap)), (1003, .dvec 6 [.s, .s, .s, .s, .x 1 [.x 1 []], .x 1 [.x 1 []]] ((([] : List An)).map AQ))] rfl rfl)))))) (Au ?_)
    exact ⟨⟨[_, _], ⟨.cellN _ _ _ _ _ _ _ rfl rfl C0 Cx rfl rfl (ID rfl), tm⟩, rfl⟩, tv, ⟨rfl, rfl, rfl, rfl, tv⟩⟩
   ·refine Al (wq rfl (qL C0 Cx rfl (qs Cx rfl (qe rfl ?_))))
    obtain rfl := sj h
    refine Af (sm [(1000, 2009), (1001, 2010), (1002, 2011), (1003, 2012)] [(6, oD (.ptr 6 0)), (7, iD 0)] [(6, .box [.own 1000, .own 1001, .own 1002, .own 1003]), (1000, .vec 1 (((([] : List Int)) ++ p0.fb).map Ap)), (1001, .vec 1 (((([] : List Int)) ++ p1).map Ap)), (1002, .vec 1 (((([] : List Int)) ++ p2).map Ap)), (1003, .dvec 6 [.s, .s, .s, .s, .x 1 [.x 1 []], .x 1 [.x 1 []]] (v7.map AQ))] rfl rfl) (Au ?_)
    exact ⟨⟨[_, _], ⟨.cellN _ _ _ _ _ _ _ rfl rfl C0 Cx rfl rfl (ID rfl), tm⟩, rfl⟩, tv, ⟨rfl, rfl, rfl, rfl, tv⟩⟩
theorem Ir (N : Nat) (p0 : Ab) (p1 : List Int) (p2 : List Int) (p3 : List Int) (r : Bool) (h : BK N p0 p1 p2 p3 = some r) : Av zA0 31 [.e (.agg (AB p0)), oD (.rop [.sl (p1.map Ap), .sl (p2.map Ap), .sl (p3.map C8)])] [] (bD r) := by
 unfold BK at h
 refine cw (n := 7) (rs := [.tmp 3]) Tryz.func31 fun w0 S0 => ?_
 refine wq rfl (qb rfl (qa rfl (Ac (wq rfl (qL A0 AF rfl (qK A0 AF rfl ?_))))))
 refine BY h fun v1 a1 h => Ay [] (GU N p0 ((Ab.mk p1 p2 p3)) v1 a1) ZB rfl (qe rfl ?_)
 obtain rfl := sj h
 refine Af (sm [] [(3, bD v1)] [] rfl rfl) (Au ?_)
 exact ⟨⟨[_], tm, rfl⟩, tv⟩
set_option maxRecDepth 10000 in
theorem IN (N : Nat) (p0 : BJ) (r : Bool) (h : Cr N p0 = some r) : Av zA0 7 [.e (.agg (CO p0))] [] (bD r) := by
 unfold Cr at h
 refine cw (n := 179) (rs := [.tmp 2]) Tryz.func7 fun w0 S0 => ?_
 refine wq rfl (qb rfl (qa rfl (Ac (wq rfl (qL Z7 az rfl ?_)))))
 refine BY h fun v1 a1 h => Ay [2001] (LD N p0 v1 a1) cu rfl (qm rfl (qx rfl (qx rfl (qx rfl (qz Ms rfl (qs Cx rfl (qa rfl (qa rfl (Ac (AN ?_))))))))))
 refine AR h (fun v2 => mk [(3, oD (.ptr 3 0)), (4, oD (.own 2002)), (41, bD v2)] [(3, .box (Ag v1.1)), (2002, .vec 3 (v1.2.1.map Ar))]) (fun j2 h => ?_) (fun v2 h => ?_)
 ·refine Ai Az rfl ?_
  refine BY h fun v3 a3 h => Ay [] (IB N v3 a3) bE rfl (CF rfl (qm rfl ?_))
  refine Ec 28 h rfl (fun h => ?_) fun h => ?_
  ·refine qw 2 rfl (qp rfl (qw 4 rfl (qp rfl (qw 4 rfl (qp rfl (Ac ?_))))))
   exact sn [(2002, 2001)] h
  ·refine qm rfl (CF rfl (qp rfl (qm rfl ?_)))
   refine Ec 32 h rfl (fun h => ?_) fun h => ?_
   ·refine qw 3 rfl (qp rfl (qw 4 rfl (qp rfl (Ac ?_))))
    exact sn [(2002, 2001)] h
   ·refine qm rfl (DQ BB rfl (BX rfl (qp rfl (qm rfl ?_))))
    refine Ec 37 h rfl (fun h => ?_) fun h => ?_
    ·refine qw 3 rfl (qp rfl (Ac ?_))
     exact sn [(2002, 2001)] h
    ·refine qL C0 Cx rfl (qm rfl ?_)
     refine BY h fun v7 a7 h => Dl [] [2001] (KD N v1.1 v1.2.1 v7 a7) cN BV rfl (qp rfl (Ac ?_))
     exact sn [(2002, 2001)] h
 ·refine Bd h (fun h => ?_) fun h => ?_
  ·refine wq rfl ?_
   refine BY h fun v9 a9 h => Ay [] (IB N v9 a9) bE rfl (qe rfl ?_)
   obtain rfl := sj h
   refine Af (sm [] [(2, bD v9)] [] rfl rfl) (Au ?_)
   exact ⟨⟨[_], tm, rfl⟩, tv⟩
  ·refine Al (wq rfl (qL C0 Cx rfl ?_))
   refine BY h fun v10 a10 h => Ay [2003] (K2 N v1.1 v10 a10) aN rfl (qm rfl (qx rfl (qx rfl (qa rfl (qa rfl (Ac (wq rfl (qL C0 Cx rfl (qm rfl ?_)))))))))
   refine BY h fun v11 a11 h => Dl [2004] [2003] (J0 N v1.1 v10.1 v11 a11) aQ (H7 (fun _ => rfl) BV) rfl (qm rfl (qx rfl (qx rfl (qa rfl (qa rfl (Ac (AN ?_)))))))
   refine AR h (fun v12 => mk [(3, oD (.ptr 3 0)), (4, oD (.own 2005)), (8, oD (.own 2006)), (64, bD v12)] [(3, .box (Ag v1.1)), (2005, .vec 3 (v1.2.1.map Ar)), (2006, .vec 3 (v11.1.map Ao))]) (fun j12 h => ?_) (fun v12 h => ?_)
   ·refine Ai Az rfl (qm rfl (BZ rfl (qm rfl ?_)))
    refine Ec 56 h rfl (fun h => ?_) fun h => ?_
    ·refine qw 2 rfl (qp rfl (qw 4 rfl (qp rfl (Ac ?_))))
     exact sn [(2005, 2002), (2006, 2004)] h
    ·refine qm rfl (BZ rfl (qp rfl (qm rfl ?_)))
     refine Ec 60 h rfl (fun h => ?_) fun h => ?_
     ·refine qw 3 rfl (qp rfl (Ac ?_))
      exact sn [(2005, 2002), (2006, 2004)] h
     ·refine qm rfl (DQ Ed rfl (BX rfl (qp rfl (Ac ?_))))
      exact sn [(2005, 2002), (2006, 2004)] h
   ·refine Bd h (fun h => ?_) fun h => ?_
    ·refine wq rfl (qe rfl ?_)
     obtain rfl := sj h
     refine Af (sm [] [(2, bD false)] [] rfl rfl) (Au ?_)
     exact ⟨⟨[_], tm, rfl⟩, tv⟩
    ·refine Al (wq rfl (qL C0 Cx rfl (qf GT rfl (ql A1 rfl (qf HO rfl (ql A1 rfl ?_))))))
     refine BY h fun v16 a16 h => H9 (ds0 := [_, _, _]) [] [2007, 2008, 2009, 2010] [] (JW N v1.1 v1.1.fh v1.1.fi v16 a16) (.p rfl) ce rfl ⟨rfl, rfl, rfl, tv⟩ rfl rfl (by decide) tv rfl (E9 rfl) ⟨rfl, rfl, rfl, rfl, tv⟩ tv rfl rfl rfl ?_
     refine qm rfl (qx rfl (qx rfl (qz Ms rfl (qs Cx rfl (qa rfl (Ac (wp rfl (qm rfl (DQ Ed rfl (qm rfl (Ac ?_)))))))))))
     refine AH (L := A7 N v11) h (fun v17 => mk [(4, oD (.own 2015)), (10, oD (.ptr 10 0)), (74, oD (.own 2016)), (75, iD ((v11.1.length : Int))), (76, iD v17.2)] [(10, .box [.own 2011, .own 2012, .own 2013, .own 2014]), (2011, .vec 1 (v16.1.fb.map Ap)), (2012, .vec 1 (v16.1.fh.map Ap)), (2013, .vec 1 (v16.1.fi.map Ap)), (2014, .dvec 6 [.s, .s, .s, .s, .x 1 [.x 1 []], .x 1 [.x 1 []]] (v17.1.map AQ)), (2015, .vec 3 (v1.2.1.map Ar)), (2016, .vec 3 (v11.1.map Ao))]) (fun v18 => mk [(4, oD (.own 2021)), (10, oD (.ptr 10 0))] [(10, .box [.own 2017, .own 2018, .own 2019, .own 2020]), (2017, .vec 1 (v16.1.fb.map Ap)), (2018, .vec 1 (v16.1.fh.map Ap)), (2019, .vec 1 (v16.1.fi.map Ap)), (2020, .dvec 6 [.s, .s, .s, .s, .x 1 [.x 1 []], .x 1 [.x 1 []]] (v18.map AQ)), (2021, .vec 3 (v1.2.1.map Ar))]) (fun _ _ => rfl) (sm [(2011, 2007), (2012, 2008), (2013, 2009), (2014, 2010), (2015, 2005), (2016, 2006)] _ _ rfl rfl) (fun j17 n17 v17 h => ?_) (fun v18 s h hs => ?_)
     ·unfold A7 at h
      refine wq rfl (AT rfl (Ac (AN ?_)))
      refine Bd h (fun h => ?_) fun h => ?_
      ·refine Al (AN (AL (wq rfl ?_)))
       refine BT h fun v20 a20 b20 h => qI Ed E2 a20 (Ae b20) rfl (qJ KE E2 (Ae b20) rfl (qz IP rfl (qs E2 rfl (Ac (AN ?_)))))
       refine AR h (fun v21 => mk [(4, oD (.own 2026)), (10, oD (.ptr 10 0)), (13, oD (.ptr 13 0)), (74, oD (.own 2027)), (75, iD ((v11.1.length : Int))), (76, iD v17.2), (125, bD v21)] [(10, .box [.own 2022, .own 2023, .own 2024, .own 2025]), (13, .box (FA v20)), (2022, .vec 1 (v16.1.fb.map Ap)), (2023, .vec 1 (v16.1.fh.map Ap)), (2024, .vec 1 (v16.1.fi.map Ap)), (2025, .dvec 6 [.s, .s, .s, .s, .x 1 [.x 1 []], .x 1 [.x 1 []]] (v17.1.map AQ)), (2026, .vec 3 (v1.2.1.map Ar)), (2027, .vec 3 (v11.1.map Ao))]) (fun j21 h => ?_) (fun v21 h => ?_)
       ·refine BT h fun v22 a22 b22 h => Af (Li 2014 2028 ((v20.fr).toNat) 4 rfl (Ae b22) rfl rfl rfl rfl rfl) ?_
        refine BT h fun v23 a23 b23 h => Af (Li 2028 2029 ((v20.fq).toNat) 0 rfl (Ae b23) rfl rfl rfl rfl rfl) (Ai Az rfl (qf Kr rfl (ql BW rfl (AT rfl (qm rfl ?_)))))
        refine Ec 83 h rfl (fun h => ?_) fun h => ?_
        ·refine qw 6 rfl (qp rfl (qw 4 rfl (qp rfl (qw 12 rfl (qp rfl (qw 15 rfl ?_))))))
         refine qn rfl (qp rfl (AK (by kernel_rfl) ?_))
         exact SF _ h (((Fs 2028 2029 (e2 := 1) (cols2 := []) (rows2 := v23.map eB) rfl rfl rfl (Ae b23) rfl rfl (G4 (Ae b23) rfl)).trans (Fs 2014 2028 (e2 := 1) (cols2 := [.x 1 []]) (rows2 := v22.fk.map (HB eB)) rfl rfl rfl (Ae b22) rfl rfl (G4 (Ae b22) rfl))).trans (sm [(2022, 2011), (2023, 2012), (2024, 2013), (2025, 2014), (2026, 2015), (2027, 2016)] _ _ rfl rfl))
        ·refine qf Kr rfl (ql BW rfl (qf BU rfl (ql Gi rfl ?_)))
         refine Vt (.g rfl rfl) rfl rfl (LV AQ v17.1 _ _ _ _ _) Dc ?_
         refine ET rfl (qp rfl (qm rfl ?_))
         refine Ec 91 h rfl (fun h => ?_) fun h => ?_
         ·refine qw 3 rfl (qp rfl (qw 12 rfl (qp rfl (qw 16 rfl (qp rfl (AK (by kernel_rfl) ?_))))))
          exact SF _ h (((Fs 2028 2029 (e2 := 1) (cols2 := []) (rows2 := v23.map eB) rfl rfl rfl (Ae b23) rfl rfl (G4 (Ae b23) rfl)).trans (Fs 2014 2028 (e2 := 1) (cols2 := [.x 1 []]) (rows2 := v22.fk.map (HB eB)) rfl rfl rfl (Ae b22) rfl rfl (G4 (Ae b22) rfl))).trans (sm [(2022, 2011), (2023, 2012), (2024, 2013), (2025, 2014), (2026, 2015), (2027, 2016)] _ _ rfl rfl))
         ·refine qf Lo rfl (ql BW rfl (AT rfl (qp rfl (qm rfl ?_))))
          refine Ec 96 h rfl (fun h => ?_) fun h => ?_
          ·refine qw 11 rfl (qp rfl (qw 16 rfl (qp rfl (AK (by kernel_rfl) ?_))))
           exact SF _ h (((Fs 2028 2029 (e2 := 1) (cols2 := []) (rows2 := v23.map eB) rfl rfl rfl (Ae b23) rfl rfl (G4 (Ae b23) rfl)).trans (Fs 2014 2028 (e2 := 1) (cols2 := [.x 1 []]) (rows2 := v22.fk.map (HB eB)) rfl rfl rfl (Ae b22) rfl rfl (G4 (Ae b22) rfl))).trans (sm [(2022, 2011), (2023, 2012), (2024, 2013), (2025, 2014), (2026, 2015), (2027, 2016)] _ _ rfl rfl))
          ·refine qf Lo rfl (ql BW rfl (qf BU rfl (ql Gi rfl (qf Kr rfl (ql BW rfl ?_)))))
           refine BT h fun v27 a27 b27 h => K1 (.g rfl rfl) rfl rfl rfl (LV AQ v17.1 _ _ _ _ _) Dc DR a27 (AC b27) ?_
           refine qh HQ rfl ?_
           refine Me (.g rfl rfl) rfl Jl rfl (Ae b27) rfl ?_
           refine Vt (.g rfl rfl) rfl rfl (LV (HB eB) v22.fk _ _ _ _ _) Fo ?_
           refine ET rfl (qp rfl (qm rfl ?_))
           refine Ec 109 h rfl (fun h => ?_) fun h => ?_
           ·refine qw 15 rfl (qp rfl (AK (by kernel_rfl) ?_))
            exact SF _ h (((Fs 2028 2029 (e2 := 1) (cols2 := []) (rows2 := v23.map eB) rfl rfl rfl (Ae b23) rfl rfl (G4 (Ae b23) rfl)).trans (Fs 2014 2028 (e2 := 1) (cols2 := [.x 1 []]) (rows2 := v22.fk.map (HB eB)) rfl rfl rfl (Ae b22) rfl rfl (G4 (Ae b22) rfl))).trans (sm [(2022, 2011), (2023, 2012), (2024, 2013), (2025, 2014), (2026, 2015), (2027, 2016)] _ _ rfl rfl))
           ·refine qf Mo rfl (ql BW rfl (qf BU rfl (ql Gi rfl (qf Kr rfl (ql BW rfl ?_)))))
            refine BT h fun v29 a29 b29 h => K1 (.g rfl rfl) rfl rfl rfl (LV AQ v17.1 _ _ _ _ _) Dc DR a29 (AC b29) ?_
            refine qh HQ rfl ?_
            refine Me (.g rfl rfl) rfl Jl rfl (Ae b29) rfl ?_
            refine qf Lo rfl (ql BW rfl ?_)
            refine BT h fun v30 a30 b30 h => K1 (.g rfl rfl) rfl rfl rfl (LV (HB eB) v22.fk _ _ _ _ _) Fo La a30 (AC b30) ?_
            refine Me (.g rfl rfl) rfl Od rfl (Ae b30) rfl ?_
            refine DQ FZ rfl (ET rfl (qp rfl (AK (by kernel_rfl) ?_)))
            exact SF _ h (((Fs 2028 2029 (e2 := 1) (cols2 := []) (rows2 := v23.map eB) rfl rfl rfl (Ae b23) rfl rfl (G4 (Ae b23) rfl)).trans (Fs 2014 2028 (e2 := 1) (cols2 := [.x 1 []]) (rows2 := v22.fk.map (HB eB)) rfl rfl rfl (Ae b22) rfl rfl (G4 (Ae b22) rfl))).trans (sm [(2022, 2011), (2023, 2012), (2024, 2013), (2025, 2014), (2026, 2015), (2027, 2016)] _ _ rfl rfl))
       ·refine Bd h (fun h => ?_) fun h => ?_
        ·refine wq rfl (qe rfl ?_)
         obtain rfl := sj h
         refine Af (sm [] [(2, bD false)] [] rfl rfl) (Au ?_)
         exact ⟨⟨[_], tm, rfl⟩, tv⟩
        ·refine Al (AN ?_)
         refine BT h fun v32 a32 b32 h => Af (Li 2025 2030 ((v20.fr).toNat) 4 rfl (Ae b32) rfl rfl rfl rfl rfl) ?_
         refine BT h fun v33 a33 b33 h => Af (Li 2030 2031 ((v20.fq).toNat) 0 rfl (Ae b33) rfl rfl rfl rfl rfl) (Ai Az rfl (qf BU rfl (ql Gi rfl (qf Kr rfl (ql BW rfl ?_)))))
         refine BT h fun v34 a34 b34 h => K1 (.p rfl) rfl rfl rfl (LV AQ v17.1 _ _ _ _ _) Dc DR a34 (AC b34) ?_
         refine qh HQ rfl ?_
         refine Me (.p rfl) rfl Jl rfl (Ae b34) rfl ?_
         refine qf Lo rfl (ql BW rfl ?_)
         refine BT h fun v35 a35 b35 h => K1 (.p rfl) rfl rfl rfl (LV (HB eB) v32.fk _ _ _ _ _) Fo La a35 (AC b35) ?_
         refine Me (.p rfl) rfl Od rfl (Ae b35) rfl ?_
         refine qa rfl (AK (by kernel_rfl) (wq rfl (qm rfl (DQ FZ rfl (qm rfl (Ac ?_))))))
         refine AH (L := Bq N v17 v20 v32 v33) h (fun v36 => mk [(4, oD (.own 2035)), (10, oD (.ptr 10 0)), (13, oD (.ptr 13 0)), (14, oD (.own 2031)), (74, oD (.own 2036)), (75, iD ((v11.1.length : Int))), (76, iD v17.2), (138, iD ((v33.length : Int))), (139, iD v36.2)] [(10, .box [.own 2032, .own 2033, .own 2034, .own 2025]), (13, .box (FA v20)), (2025, .hol 6 [.s, .s, .s, .s, .x 1 [.x 1 []], .x 1 [.x 1 []]] ((v20.fr).toNat) 4 2030 (v17.1.map AQ)), (2030, .hol 1 [.x 1 []] ((v20.fq).toNat) 0 2031 (v32.fk.map (HB eB))), (2031, .vec 1 (v36.1.map eB)), (2032, .vec 1 (v16.1.fb.map Ap)), (2033, .vec 1 (v16.1.fh.map Ap)), (2034, .vec 1 (v16.1.fi.map Ap)), (2035, .vec 3 (v1.2.1.map Ar)), (2036, .vec 3 (v11.1.map Ao))]) (fun v37 => mk [(4, oD (.own 2041)), (10, oD (.ptr 10 0)), (74, oD (.own 2042)), (75, iD ((v11.1.length : Int))), (76, iD v17.2)] [(10, .box [.own 2037, .own 2038, .own 2039, .own 2040]), (2037, .vec 1 (v16.1.fb.map Ap)), (2038, .vec 1 (v16.1.fh.map Ap)), (2039, .vec 1 (v16.1.fi.map Ap)), (2040, .dvec 6 [.s, .s, .s, .s, .x 1 [.x 1 []], .x 1 [.x 1 []]] (v37.map AQ)), (2041, .vec 3 (v1.2.1.map Ar)), (2042, .vec 3 (v11.1.map Ao))]) (fun _ _ => rfl) (sm [(2032, 2022), (2033, 2023), (2034, 2024), (2035, 2026), (2036, 2027)] _ _ rfl rfl) (fun j36 n36 v36 h => ?_) (fun v37 s h hs => ?_)
         ·unfold Bq at h
          refine wq rfl (AT rfl (Ac (AN ?_)))
          refine Bd h (fun h => ?_) fun h => ?_
          ·refine Al ?_
           refine AR h (fun v39 => mk [(4, oD (.own 2046)), (10, oD (.ptr 10 0)), (13, oD (.ptr 13 0)), (14, oD (.own 2031)), (74, oD (.own 2047)), (75, iD ((v11.1.length : Int))), (76, iD v17.2), (138, iD ((v33.length : Int))), (139, iD v36.2)] [(10, .box [.own 2043, .own 2044, .own 2045, .own 2025]), (13, .box (FA v20)), (2025, .hol 6 [.s, .s, .s, .s, .x 1 [.x 1 []], .x 1 [.x 1 []]] ((v20.fr).toNat) 4 2030 (v17.1.map AQ)), (2030, .hol 1 [.x 1 []] ((v20.fq).toNat) 0 2031 (v32.fk.map (HB eB))), (2031, .vec 1 (v39.map eB)), (2043, .vec 1 (v16.1.fb.map Ap)), (2044, .vec 1 (v16.1.fh.map Ap)), (2045, .vec 1 (v16.1.fi.map Ap)), (2046, .vec 3 (v1.2.1.map Ar)), (2047, .vec 3 (v11.1.map Ao))]) (fun j39 h => ?_) (fun v39 h => ?_)
           ·refine AL (wq rfl (qm rfl (qe rfl ?_)))
            refine AR h (fun v40 => mk [(4, oD (.own 2051)), (10, oD (.ptr 10 0)), (13, oD (.ptr 13 0)), (14, oD (.own 2031)), (15, iD v36.2), (74, oD (.own 2052)), (75, iD ((v11.1.length : Int))), (76, iD v17.2), (138, iD ((v33.length : Int))), (139, iD v36.2), (150, bD v40)] [(10, .box [.own 2048, .own 2049, .own 2050, .own 2025]), (13, .box (FA v20)), (2025, .hol 6 [.s, .s, .s, .s, .x 1 [.x 1 []], .x 1 [.x 1 []]] ((v20.fr).toNat) 4 2030 (v17.1.map AQ)), (2030, .hol 1 [.x 1 []] ((v20.fq).toNat) 0 2031 (v32.fk.map (HB eB))), (2031, .vec 1 (v36.1.map eB)), (2048, .vec 1 (v16.1.fb.map Ap)), (2049, .vec 1 (v16.1.fh.map Ap)), (2050, .vec 1 (v16.1.fi.map Ap)), (2051, .vec 3 (v1.2.1.map Ar)), (2052, .vec 3 (v11.1.map Ao))]) (fun j40 h => ?_) (fun v40 h => ?_)
            ·refine Ai Az rfl (qf Mo rfl (ql BW rfl (AT rfl (qm rfl ?_))))
             refine Ec 145 h rfl (fun h => ?_) fun h => ?_
             ·refine qw 4 rfl (qp rfl (Ac ?_))
              exact sn [(2048, 2032), (2049, 2033), (2050, 2034), (2051, 2035), (2052, 2036)] h
             ·refine qf Mo rfl (ql BW rfl (qm rfl (BX rfl (qp rfl (Ac ?_)))))
              exact sn [(2048, 2032), (2049, 2033), (2050, 2034), (2051, 2035), (2052, 2036)] h
            ·refine Bd h (fun h => ?_) fun h => ?_
             ·refine Ai Az rfl (qw 2 rfl ?_)
              refine BT h fun v43 a43 b43 h => qI FZ PQ a43 (Ae b43) rfl ?_
              refine EH rfl rfl rfl rfl (Ae b43) rfl PQ rfl (Ig rfl) (Ej eB v36.1 _ true) ?_
              refine Ac ?_
              exact sn [(2043, 2048), (2044, 2049), (2045, 2050), (2046, 2051), (2047, 2052)] h
             ·refine Al ?_
              exact sn [(2043, 2048), (2044, 2049), (2045, 2050), (2046, 2051), (2047, 2052)] h
           ·refine Ai Az rfl (AZ rfl (qm rfl (Ac ?_)))
            exact sn [(2032, 2043), (2033, 2044), (2034, 2045), (2035, 2046), (2036, 2047)] h
          ·refine AS ?_
           exact SF _ h (((Fs 2030 2031 (e2 := 1) (cols2 := []) (rows2 := v36.1.map eB) rfl rfl rfl (Ae b33) rfl rfl (Ej (HB eB) v32.fk _ v36.1)).trans (Fs 2025 2030 (e2 := 1) (cols2 := [.x 1 []]) (rows2 := (v32.fk.set ((v20.fq).toNat) v36.1).map (HB eB)) rfl rfl rfl (Ae b32) rfl rfl (Ej AQ v17.1 _ ((An.mk v32.ff v32.fg v32.fm v32.ft (v32.fk.set ((v20.fq).toNat) v36.1) v32.fo))))).trans (sm [(2037, 2032), (2038, 2033), (2039, 2034), (2040, 2025), (2041, 2035), (2042, 2036)] _ _ rfl rfl))
         ·refine Af hs (Ai Az rfl (AZ rfl (qm rfl (Ac ?_))))
          exact sn [(2011, 2037), (2012, 2038), (2013, 2039), (2014, 2040), (2015, 2041), (2016, 2042)] h
      ·refine AS ?_
       exact sn [(2017, 2011), (2018, 2012), (2019, 2013), (2020, 2014), (2021, 2015)] h
     ·refine Af hs (wq rfl (qL C0 Cx rfl (Dh (AW 2017 _ _ rfl rfl) (Dh (AW 2018 _ _ rfl rfl) (Dh (AW 2019 _ _ rfl rfl) (Dh (UN 2020 _ _ _ rfl rfl) ?_))))))
      refine BY h fun v44 a44 h => Ay [2053] (Il N ((Aa.mk v16.1.fb v16.1.fh v16.1.fi v18)) 300 v44 a44) bg rfl (qm rfl (qx rfl (qx rfl (qa rfl (qa rfl (Ac (wp rfl (qm rfl (CF rfl (Ac ?_))))))))))
      refine Bd h (fun h => ?_) fun h => ?_
      ·refine wq rfl (qe rfl ?_)
       obtain rfl := sj h
       refine Af (sm [] [(2, bD true)] [] rfl rfl) (Au ?_)
       exact ⟨⟨[_], tm, rfl⟩, tv⟩
      ·refine Al (wp rfl (qm rfl (DQ BB rfl (qm rfl (Ac ?_)))))
       refine AH (L := Bs N v1 v44) h (fun v46 => mk [(4, oD (.own 2054)), (16, oD (.own 2055)), (163, oD (.own 2054)), (164, iD ((v1.2.1.length : Int))), (165, iD v46)] [(2054, .vec 3 (v1.2.1.map Ar)), (2055, .vec 3 (v44.1.map Ar))]) (fun v47 => mk [(4, oD (.own 2056)), (16, oD (.own 2057))] [(2056, .vec 3 (v1.2.1.map Ar)), (2057, .vec 3 (v44.1.map Ar))]) (fun _ _ => rfl) (sm [(2054, 2021), (2055, 2053)] _ _ rfl rfl) (fun j46 n46 v46 h => ?_) (fun v47 s h hs => ?_)
       ·unfold Bs at h
        refine wq rfl (AT rfl (Ac (AN ?_)))
        refine Bd h (fun h => ?_) fun h => ?_
        ·refine Al (AN (AL (wq rfl ?_)))
         refine BT h fun v49 a49 b49 h => qI BB AF a49 (Ae b49) rfl (qJ A0 AF (Ae b49) rfl (qz Ci rfl (qs AF rfl (Ac (wq rfl (qm rfl (Dh (KG 19 [.sl (v49.fd.map Ap), .sl (v49.fa.map Ap), .sl (v49.fe.map C8)] rfl rfl) ?_)))))))
         refine J9 (capD := [_]) (HJ (Nw true Ar) tB ((fun (x : Ab) => BK N x v49.fd v49.fa v49.fe))) (.p rfl) cR rfl ⟨rfl, tv⟩ rfl (fun ar t ht => by obtain ⟨x, r, rfl, hq, rfl⟩ := Hx ht; exact Ir N x v49.fd v49.fa v49.fe r hq) ?_
         refine BY h fun v50 a50 h => Dl [] [2055] (EX N v44.1 ((fun (x : Ab) => BK N x v49.fd v49.fa v49.fe)) v50 a50) aK BV rfl (CF rfl (Ac ?_))
         refine Bd h (fun h => ?_) fun h => ?_
         ·refine wq rfl (qe rfl ?_)
          obtain rfl := sj h
          refine Af (sm [] [(2, bD false)] [] rfl rfl) (Au ?_)
          exact ⟨⟨[_], tm, rfl⟩, tv⟩
         ·refine Al (Ai Az rfl (AZ rfl (qm rfl (Ac ?_))))
          exact sn [] h
        ·refine AS ?_
         exact sn [(2056, 2054), (2057, 2055)] h
       ·refine Af hs (wq rfl (qm rfl (DQ BB rfl (qm rfl (DQ BB rfl (ET rfl (qe rfl ?_)))))))
        obtain rfl := sj h
        refine Af (sm [] [(2, bD ((decide ((v1.2.1.length : Int) ≤ (v44.1.length : Int)))))] [] rfl rfl) (Au ?_)
        exact ⟨⟨[_], tm, rfl⟩, tv⟩
end Go.Lift
