/- Lemmas for RefuseCheckSaid, which YtpaobkaighpaaaaGreatFinR9 proves. -/
import Derived.Test.YtpaobkaighpaaaaGreatCode1
open Int renaming tmod → vF
open List renaming length_map → vT, length_replicate → zF3, map_eq_nil_iff → zH1, replicate → uY
open Nat renaming zero_add → uT
open Go.Proofs.Tryz renaming prog → uS
namespace Go.Lift
open IntKind renaming wrap → wI
set_option maxRecDepth 10000
open Go.RowKit
open Go.Proofs
theorem GV (N : Nat) (p0 : Ab) (p1 : Aa) (p2 : Aj) (r : Aa × Bool) (h : Cz N p0 p1 p2 = some r) : Ar uS 73 [.e (.agg (Ae p0)), .e (.agg (AA p1)), .e (.agg (DI p2))] [(1, r.1.fd.map Ao), (1, r.1.fa.map Ao), (1, r.1.fc.map CF)] (.tup [.agg [.own 0, .own 1, .own 2], .one (.pure (.val (.bool r.2)))]) := by
 unfold Cz at h
 refine cw (n := 201) (rs := [.cell 6 46, .tmp 7]) Tryz.func73 fun w0 S0 => ?_
 refine wq rfl (qb rfl (qb rfl (qb rfl (qz B1 rfl (qa rfl (Ac (wq rfl (DF Ay Do Kq rfl (qf Ct rfl (ql A7 rfl ?_))))))))))
 refine F4 h fun c1 h => I0 (f := Ao) Ay Ay Do LE Kq (fun _ => rfl) c1 rfl (DF Ay Do Kq rfl (qf Bo rfl (ql A7 rfl ?_)))
 refine F4 h fun c2 h => I0 (f := Ao) Ay Ay Do LE Kq (fun _ => rfl) c2 rfl (DF Df FR M3 rfl (qf Cx rfl (ql GU rfl ?_)))
 refine F4 h fun c3 h => I0 (f := CF) Df Df FR PY M3 (fun _ => rfl) c3 rfl (Br B1 Hu rfl (qz B1 rfl (qs Az rfl (AM (by kernel_rfl) (wq rfl (qf Fn rfl (ql Cl rfl (qe rfl ?_))))))))
 refine AR h (fun v4 => mk [(6, oD (.ptr 6 0)), (8, oD (.ptr 8 0))] [(6, .box [.pure (.nil0), .pure (.nil0), .pure (.nil0)]), (8, .box [.own 2001, .own 2002, .own 2003]), (2001, .vec 1 (v4.1.map Ao)), (2002, .vec 1 (v4.2.1.map Ao)), (2003, .vec 1 (v4.2.2.map CF))]) (fun j4 h => ?_) (fun v4 h => ?_)
 ·refine wq rfl (qf Gf rfl (ql Cl rfl (Ac (AO (wq rfl (BY rfl (qe rfl ?_)))))))
  refine Bb h (fun h => ?_) fun h => ?_
  ·refine AS ?_
   refine AR h (fun v6 => mk [(3, oD (.ptr 3 0)), (5, oD (.ptr 5 0)), (6, oD (.ptr 6 0)), (8, oD (.ptr 8 0)), (9, iD p2.fh), (60, bD v6)] [(3, .box (Ae p0)), (5, .box (DI p2)), (6, .box [.pure (.nil0), .pure (.nil0), .pure (.nil0)]), (8, .box [.own 2004, .own 2005, .own 2006]), (2004, .vec 1 (((([] : List Int)) ++ p1.fd).map Ao)), (2005, .vec 1 (((([] : List Int)) ++ p1.fa).map Ao)), (2006, .vec 1 (((([] : List Int)) ++ p1.fc).map CF))]) (fun j6 h => ?_) (fun v6 h => ?_)
   ·refine Ah Ax rfl (qf Bo rfl (ql A7 rfl (qm rfl ?_)))
    refine B3 h fun v7 a7 b7 h => qi Ay Do a7 (Ag b7) rfl (qk Cl rfl (Fb rfl (qm rfl ?_)))
    refine Eh 51 h rfl (fun h => ?_) fun h => ?_
    ·refine qw 8 rfl (qp rfl (AM (by kernel_rfl) ?_))
     exact sn [(2004, 18), (2005, 22), (2006, 26)] h
    ·refine qf Hk rfl (ql Cl rfl (qf Ct rfl (ql A7 rfl (qm rfl ?_))))
     refine B3 h fun v9 a9 b9 h => qi Ay Do a9 (Ag b9) rfl (qk Cl rfl (BY rfl (qp rfl (AM (by kernel_rfl) ?_))))
     exact sn [(2004, 18), (2005, 22), (2006, 26)] h
   ·refine Bb h (fun h => ?_) fun h => ?_
    ·refine wq rfl (Br B1 Hu rfl (qs Az rfl (qe rfl ?_)))
     obtain rfl := sj h
     refine Af ((Av 6 0 2007 1 _ rfl rfl rfl rfl).trans ((Av 6 1 2008 1 _ rfl rfl rfl rfl).trans ((Av 6 2 2009 1 _ rfl rfl rfl rfl).trans (sm [(1000, 2007), (1001, 2008), (1002, 2009)] [(6, oD (.ptr 6 0)), (7, bD false)] [(6, .box [.own 1000, .own 1001, .own 1002]), (1000, .vec 1 ((([] : List Int)).map Ao)), (1001, .vec 1 ((([] : List Int)).map Ao)), (1002, .vec 1 ((([] : List Int)).map CF))] rfl rfl)))) (As ?_)
     exact ⟨⟨[_, _], ⟨.cellN _ _ _ _ _ _ _ rfl rfl AZ Az rfl rfl (IX rfl), tm⟩, rfl⟩, ⟨rfl, rfl, rfl, tv⟩⟩
    ·refine Ak (wq rfl (qf Bo rfl (ql A7 rfl (qm rfl (qf Hk rfl (ql Cl rfl ?_))))))
     refine B3 h fun v11 a11 b11 h => qI Ay Do a11 (Ag b11) rfl ?_
     refine Em rfl rfl rfl rfl (Ag b11) rfl Do rfl (IU rfl) (Ei Ao ((([] : List Int)) ++ p1.fa) _ p2.fm) ?_
     refine Ac (wq rfl (qe rfl ?_))
     refine AH (L := Cf N p0 p2) h (fun v12 => mk [(3, oD (.ptr 3 0)), (5, oD (.ptr 5 0)), (6, oD (.ptr 6 0)), (8, oD (.ptr 8 0)), (9, iD p2.fh), (10, iD v12.2)] [(3, .box (Ae p0)), (5, .box (DI p2)), (6, .box [.pure (.nil0), .pure (.nil0), .pure (.nil0)]), (8, .box [.own 2010, .own 2011, .own 2012]), (2010, .vec 1 (((([] : List Int)) ++ p1.fd).map Ao)), (2011, .vec 1 ((((([] : List Int)) ++ p1.fa).set ((p2.fh).toNat) p2.fm).map Ao)), (2012, .vec 1 (v12.1.map CF))]) (fun v13 => mk [(6, oD (.ptr 6 0)), (8, oD (.ptr 8 0))] [(6, .box [.pure (.nil0), .pure (.nil0), .pure (.nil0)]), (8, .box [.own 2013, .own 2014, .own 2015]), (2013, .vec 1 (((([] : List Int)) ++ p1.fd).map Ao)), (2014, .vec 1 ((((([] : List Int)) ++ p1.fa).set ((p2.fh).toNat) p2.fm).map Ao)), (2015, .vec 1 (v13.map CF))]) (fun _ _ => rfl) (sm [(2010, 2004), (2011, 2005), (2012, 2006)] _ _ rfl rfl) (fun j12 n12 v12 h => ?_) (fun v13 s h hs => ?_)
     ·unfold Cf at h
      refine wp rfl (qm rfl (qf CY rfl (ql Hz rfl (AL Ek rfl (AV rfl (Ac ?_))))))
      refine Bb h (fun h => ?_) fun h => ?_
      ·refine Ak ?_
       refine AR h (fun v15 => mk [(3, oD (.ptr 3 0)), (5, oD (.ptr 5 0)), (6, oD (.ptr 6 0)), (8, oD (.ptr 8 0)), (9, iD p2.fh), (10, iD v12.2)] [(3, .box (Ae p0)), (5, .box (DI p2)), (6, .box [.pure (.nil0), .pure (.nil0), .pure (.nil0)]), (8, .box [.own 2016, .own 2017, .own 2018]), (2016, .vec 1 (((([] : List Int)) ++ p1.fd).map Ao)), (2017, .vec 1 ((((([] : List Int)) ++ p1.fa).set ((p2.fh).toNat) p2.fm).map Ao)), (2018, .vec 1 (v15.map CF))]) (fun j15 h => ?_) (fun v15 h => ?_)
       ·refine AO ?_
        refine AR h (fun v16 => mk [(3, oD (.ptr 3 0)), (5, oD (.ptr 5 0)), (6, oD (.ptr 6 0)), (8, oD (.ptr 8 0)), (9, iD p2.fh), (10, iD v12.2), (90, bD v16)] [(3, .box (Ae p0)), (5, .box (DI p2)), (6, .box [.pure (.nil0), .pure (.nil0), .pure (.nil0)]), (8, .box [.own 2019, .own 2020, .own 2021]), (2019, .vec 1 (((([] : List Int)) ++ p1.fd).map Ao)), (2020, .vec 1 ((((([] : List Int)) ++ p1.fa).set ((p2.fh).toNat) p2.fm).map Ao)), (2021, .vec 1 (v12.1.map CF))]) (fun j16 h => ?_) (fun v16 h => ?_)
        ·refine Ah Ax rfl (qf CY rfl (ql Hz rfl (qm rfl ?_)))
         refine B3 h fun v17 a17 b17 h => qi Ek Ex a17 (Ag b17) rfl (qg Dl rfl (qk Cl rfl (qm rfl (BY rfl (qm rfl ?_)))))
         refine Eh 83 h rfl (fun h => ?_) fun h => ?_
         ·refine qf CY rfl (ql Hz rfl (qm rfl ?_))
          refine B3 h fun v19 a19 b19 h => qi Ek Ex a19 (Ag b19) rfl (qK HM Ex rfl ?_)
          refine BV h fun v20 a20 h => Aw [] (Ch N v19 v20 a20) O7 rfl (qp rfl (Ac ?_))
          exact sn [(2019, 2010), (2020, 2011), (2021, 2012)] h
         ·refine qw 6 rfl (qp rfl (Ac ?_))
          exact sn [(2019, 2010), (2020, 2011), (2021, 2012)] h
        ·refine Bb h (fun h => ?_) fun h => ?_
         ·refine Ah Ax rfl (qf Cx rfl (ql GU rfl (qm rfl (qf Cx rfl (ql GU rfl (qm rfl ?_))))))
          refine B3 h fun v22 a22 b22 h => qI Df FR a22 (Ag b22) rfl (qj Ks (Ag b22) rfl (qf Hk rfl (ql Cl rfl ?_)))
          refine F4 h fun c23 h => Jm rfl c23 (TN rfl ?_)
          refine B3 h fun v24 a24 b24 h => qI Df FR a24 (Ag b24) rfl ?_
          refine Em rfl rfl rfl rfl (Ag b24) rfl FR rfl (IU rfl) (Ei CF v12.1 _ ((MG .u8 v22 ((D7 .u8 1 p2.fm))))) ?_
          refine AM (by kernel_rfl) ?_
          exact sn [(2016, 2019), (2017, 2020), (2018, 2021)] h
         ·refine Ak ?_
          exact sn [(2016, 2019), (2017, 2020), (2018, 2021)] h
       ·refine Ah Ax rfl (qm rfl (A4 rfl (qe rfl ?_)))
        exact sn [(2010, 2016), (2011, 2017), (2012, 2018)] h
      ·refine AT ?_
       exact sn [(2013, 2010), (2014, 2011), (2015, 2012)] h
     ·exact Y4 _ h (hs.trans (sm [(2001, 2013), (2002, 2014), (2003, 2015)] _ _ rfl rfl))
  ·refine wq rfl (BY rfl (qe rfl ?_))
   refine Bb h (fun h => ?_) fun h => ?_
   ·refine wp rfl (qf Bo rfl (ql A7 rfl (qm rfl ?_)))
    refine B3 h fun v26 a26 b26 h => qi Ay Do a26 (Ag b26) rfl (qk Cl rfl (AV rfl (Ac ?_)))
    refine Bb h (fun h => ?_) fun h => ?_
    ·refine wq rfl (Br B1 Hu rfl (qs Az rfl (qe rfl ?_)))
     obtain rfl := sj h
     refine Af ((Av 6 0 2022 1 _ rfl rfl rfl rfl).trans ((Av 6 1 2023 1 _ rfl rfl rfl rfl).trans ((Av 6 2 2024 1 _ rfl rfl rfl rfl).trans (sm [(1000, 2022), (1001, 2023), (1002, 2024)] [(6, oD (.ptr 6 0)), (7, bD false)] [(6, .box [.own 1000, .own 1001, .own 1002]), (1000, .vec 1 ((([] : List Int)).map Ao)), (1001, .vec 1 ((([] : List Int)).map Ao)), (1002, .vec 1 ((([] : List Int)).map CF))] rfl rfl)))) (As ?_)
     exact ⟨⟨[_, _], ⟨.cellN _ _ _ _ _ _ _ rfl rfl AZ Az rfl rfl (IX rfl), tm⟩, rfl⟩, ⟨rfl, rfl, rfl, tv⟩⟩
    ·refine Ak (Ah Ax rfl (qf Ct rfl (ql A7 rfl (qm rfl (qf Bo rfl (ql A7 rfl (qm rfl (qf Bo rfl (ql A7 rfl (qm rfl ?_))))))))))
     refine B3 h fun v28 a28 b28 h => qi Ay Do a28 (Ag b28) rfl (qk Cl rfl ?_)
     refine B3 h fun v29 a29 b29 h => qI Ay Do a29 (Ag b29) rfl ?_
     refine Em rfl rfl rfl rfl (Ag b29) rfl Do rfl (IU rfl) (Ei Ao ((([] : List Int)) ++ p1.fd) _ v28) ?_
     refine B3 h fun v30 a30 b30 h => qI Ay Do a30 (Ag b30) rfl ?_
     refine Em rfl rfl rfl rfl (Ag b30) rfl Do rfl (IU rfl) (Ei Ao ((([] : List Int)) ++ p1.fa) _ ((-1))) ?_
     refine AM (by kernel_rfl) ?_
     exact sn [(2001, 18), (2002, 22), (2003, 26)] h
   ·refine wq rfl (BY rfl (qe rfl ?_))
    refine Bb h (fun h => ?_) fun h => ?_
    ·refine wq rfl (qf CY rfl (ql Hz rfl (qm rfl ?_)))
     refine B3 h fun v32 a32 b32 h => qi Ek Ex a32 (Ag b32) rfl (qK HM Ex rfl (qz Lj rfl (qs Ex rfl (Ac (wp rfl (qL HM Ex rfl ?_))))))
     refine BV h fun v33 a33 h => Aw [] (Ch N v32 v33 a33) O7 rfl (Cm rfl (Ac ?_))
     refine Bb h (fun h => ?_) fun h => ?_
     ·refine wq rfl (Br B1 Hu rfl (qs Az rfl (qe rfl ?_)))
      obtain rfl := sj h
      refine Af ((Av 6 0 2025 1 _ rfl rfl rfl rfl).trans ((Av 6 1 2026 1 _ rfl rfl rfl rfl).trans ((Av 6 2 2027 1 _ rfl rfl rfl rfl).trans (sm [(1000, 2025), (1001, 2026), (1002, 2027)] [(6, oD (.ptr 6 0)), (7, bD false)] [(6, .box [.own 1000, .own 1001, .own 1002]), (1000, .vec 1 ((([] : List Int)).map Ao)), (1001, .vec 1 ((([] : List Int)).map Ao)), (1002, .vec 1 ((([] : List Int)).map CF))] rfl rfl)))) (As ?_)
      exact ⟨⟨[_, _], ⟨.cellN _ _ _ _ _ _ _ rfl rfl AZ Az rfl rfl (IX rfl), tm⟩, rfl⟩, ⟨rfl, rfl, rfl, tv⟩⟩
     ·refine Ak (wq rfl (qL AZ Az rfl (qf Dl rfl (ql Cl rfl ?_))))
      refine BV h fun v35 a35 h => Aw [] (DU N p1 v32.fg v35 a35) TX rfl (qa rfl (Ac (wp rfl (qf Cx rfl (ql GU rfl (qm rfl ?_))))))
      refine B3 h fun v36 a36 b36 h => qi Df FR a36 (Ag b36) rfl (qk Ks rfl (qm rfl (BY rfl (Ac ?_))))
      refine Bb h (fun h => ?_) fun h => ?_
      ·refine wq rfl (Br B1 Hu rfl (qs Az rfl (qe rfl ?_)))
       obtain rfl := sj h
       refine Af ((Av 6 0 2028 1 _ rfl rfl rfl rfl).trans ((Av 6 1 2029 1 _ rfl rfl rfl rfl).trans ((Av 6 2 2030 1 _ rfl rfl rfl rfl).trans (sm [(1000, 2028), (1001, 2029), (1002, 2030)] [(6, oD (.ptr 6 0)), (7, bD false)] [(6, .box [.own 1000, .own 1001, .own 1002]), (1000, .vec 1 ((([] : List Int)).map Ao)), (1001, .vec 1 ((([] : List Int)).map Ao)), (1002, .vec 1 ((([] : List Int)).map CF))] rfl rfl)))) (As ?_)
       exact ⟨⟨[_, _], ⟨.cellN _ _ _ _ _ _ _ rfl rfl AZ Az rfl rfl (IX rfl), tm⟩, rfl⟩, ⟨rfl, rfl, rfl, tv⟩⟩
      ·refine Ak (wp rfl (qe rfl ?_))
       refine AH (L := BU N p0 p1 p2 v32 v35) h (fun v38 => mk [(3, oD (.ptr 3 0)), (4, oD (.ptr 4 0)), (6, oD (.ptr 6 0)), (8, oD (.ptr 8 0)), (9, iD p2.fh), (11, oD (.ptr 11 0)), (12, pD (.val (.int .u8 v35))), (13, iD v38)] [(3, .box (Ae p0)), (4, .box (AA p1)), (6, .box [.pure (.nil0), .pure (.nil0), .pure (.nil0)]), (8, .box [.own 2031, .own 2032, .own 2033]), (11, .box (Bs v32)), (2031, .vec 1 (((([] : List Int)) ++ p1.fd).map Ao)), (2032, .vec 1 (((([] : List Int)) ++ p1.fa).map Ao)), (2033, .vec 1 (((([] : List Int)) ++ p1.fc).map CF))]) (fun v39 => mk [(6, oD (.ptr 6 0)), (8, oD (.ptr 8 0)), (9, iD p2.fh), (12, pD (.val (.int .u8 v35)))] [(6, .box [.pure (.nil0), .pure (.nil0), .pure (.nil0)]), (8, .box [.own 2034, .own 2035, .own 2036]), (2034, .vec 1 (((([] : List Int)) ++ p1.fd).map Ao)), (2035, .vec 1 (((([] : List Int)) ++ p1.fa).map Ao)), (2036, .vec 1 (((([] : List Int)) ++ p1.fc).map CF))]) (fun _ _ => rfl) (sm [(2031, 18), (2032, 22), (2033, 26)] _ _ rfl rfl) (fun j38 n38 v38 h => ?_) (fun v39 s h hs => ?_)
       ·unfold BU at h
        refine wp rfl (qm rfl (qf Bt rfl (ql A7 rfl (qf Dl rfl (ql Cl rfl ?_)))))
        refine B3 h fun v40 a40 b40 h => qi Ay Do a40 (Ag b40) rfl (qk Cl rfl (AV rfl (Ac ?_)))
        refine Bb h (fun h => ?_) fun h => ?_
        ·refine Ak (AS (AO ?_))
         refine AR h (fun v42 => mk [(3, oD (.ptr 3 0)), (4, oD (.ptr 4 0)), (6, oD (.ptr 6 0)), (8, oD (.ptr 8 0)), (9, iD p2.fh), (11, oD (.ptr 11 0)), (12, pD (.val (.int .u8 v35))), (13, iD v38), (14, bD v42)] [(3, .box (Ae p0)), (4, .box (AA p1)), (6, .box [.pure (.nil0), .pure (.nil0), .pure (.nil0)]), (8, .box [.own 2037, .own 2038, .own 2039]), (11, .box (Bs v32)), (2037, .vec 1 (((([] : List Int)) ++ p1.fd).map Ao)), (2038, .vec 1 (((([] : List Int)) ++ p1.fa).map Ao)), (2039, .vec 1 (((([] : List Int)) ++ p1.fc).map CF))]) (fun j42 h => ?_) (fun v42 h => ?_)
         ·refine Ah Ax rfl (qf Cx rfl (ql GU rfl (qm rfl ?_)))
          refine B3 h fun v43 a43 b43 h => qi Df FR a43 (Ag b43) rfl (qk Ks rfl (qm rfl ?_))
          refine BV h fun v44 a44 h => Aw [] (Gu N v43 v38 v44 a44) Tu rfl (qm rfl ?_)
          refine Eh 166 h rfl (fun h => ?_) fun h => ?_
          ·refine qw 2 rfl ?_
           refine BV h fun v46 a46 h => Aw [] (Gu N v35 v38 v46 a46) Tu rfl (Cm rfl (qp rfl (qe rfl ?_)))
           exact sn [(2037, 2031), (2038, 2032), (2039, 2033)] h
          ·refine qw 4 rfl (qp rfl (qe rfl ?_))
           exact sn [(2037, 2031), (2038, 2032), (2039, 2033)] h
         ·refine AR h (fun v47 => mk [(3, oD (.ptr 3 0)), (4, oD (.ptr 4 0)), (6, oD (.ptr 6 0)), (8, oD (.ptr 8 0)), (9, iD p2.fh), (11, oD (.ptr 11 0)), (12, pD (.val (.int .u8 v35))), (13, iD v38), (193, bD v47)] [(3, .box (Ae p0)), (4, .box (AA p1)), (6, .box [.pure (.nil0), .pure (.nil0), .pure (.nil0)]), (8, .box [.own 2040, .own 2041, .own 2042]), (11, .box (Bs v32)), (2040, .vec 1 (((([] : List Int)) ++ p1.fd).map Ao)), (2041, .vec 1 (((([] : List Int)) ++ p1.fa).map Ao)), (2042, .vec 1 (((([] : List Int)) ++ p1.fc).map CF))]) (fun j47 h => ?_) (fun v47 h => ?_)
          ·refine Ah Ax rfl (qw 2 rfl ?_)
           refine Eh 173 h rfl (fun h => ?_) fun h => ?_
           ·refine qf Gw rfl (ql Cl rfl (BY rfl (qp rfl (qm rfl ?_))))
            refine Eh 178 h rfl (fun h => ?_) fun h => ?_
            ·refine qf Hm rfl (ql KQ rfl (qm rfl ?_))
             refine B3 h fun v50 a50 b50 h => qi GR NE a50 (Ag b50) rfl (qk QS rfl (qf Ct rfl (ql A7 rfl (qf Dl rfl (ql Cl rfl ?_)))))
             refine B3 h fun v51 a51 b51 h => qi Ay Do a51 (Ag b51) rfl (qk Cl rfl ?_)
             refine B3 h fun v52 a52 b52 h => qi Ha Rd a52 (Ag b52) rfl (qk Ti rfl (Cm rfl (qp rfl (AM (by kernel_rfl) ?_))))
             exact sn [(2040, 2037), (2041, 2038), (2042, 2039)] h
            ·refine qw 14 rfl (qp rfl (AM (by kernel_rfl) ?_))
             exact sn [(2040, 2037), (2041, 2038), (2042, 2039)] h
           ·refine qw 3 rfl (qp rfl (qw 15 rfl (qp rfl (AM (by kernel_rfl) ?_))))
            exact sn [(2040, 2037), (2041, 2038), (2042, 2039)] h
          ·refine Bb h (fun h => ?_) fun h => ?_
           ·refine wq rfl (Br B1 Hu rfl (qs Az rfl (qe rfl ?_)))
            obtain rfl := sj h
            refine Af ((Av 6 0 2043 1 _ rfl rfl rfl rfl).trans ((Av 6 1 2044 1 _ rfl rfl rfl rfl).trans ((Av 6 2 2045 1 _ rfl rfl rfl rfl).trans (sm [(1000, 2043), (1001, 2044), (1002, 2045)] [(6, oD (.ptr 6 0)), (7, bD false)] [(6, .box [.own 1000, .own 1001, .own 1002]), (1000, .vec 1 ((([] : List Int)).map Ao)), (1001, .vec 1 ((([] : List Int)).map Ao)), (1002, .vec 1 ((([] : List Int)).map CF))] rfl rfl)))) (As ?_)
            exact ⟨⟨[_, _], ⟨.cellN _ _ _ _ _ _ _ rfl rfl AZ Az rfl rfl (IX rfl), tm⟩, rfl⟩, ⟨rfl, rfl, rfl, tv⟩⟩
           ·refine Ak (Ah Ax rfl (qm rfl (A4 rfl (qe rfl ?_))))
            exact sn [(2031, 2040), (2032, 2041), (2033, 2042)] h
        ·refine AT ?_
         exact sn [(2034, 2031), (2035, 2032), (2036, 2033)] h
       ·refine Af hs (Ah Ax rfl (qf Cx rfl (ql GU rfl (qw 2 rfl ?_))))
        refine B3 h fun v54 a54 b54 h => qI Df FR a54 (Ag b54) rfl ?_
        refine Em rfl rfl rfl rfl (Ag b54) rfl FR rfl (IU rfl) (Ei CF ((([] : List Int)) ++ p1.fc) _ v35) ?_
        refine Ac ?_
        exact sn [(2001, 2034), (2002, 2035), (2003, 2036)] h
    ·refine wp rfl (qf Bo rfl (ql A7 rfl (qm rfl ?_)))
     refine B3 h fun v55 a55 b55 h => qi Ay Do a55 (Ag b55) rfl (qk Cl rfl (AV rfl (Ac ?_)))
     refine Bb h (fun h => ?_) fun h => ?_
     ·refine wq rfl (Br B1 Hu rfl (qs Az rfl (qe rfl ?_)))
      obtain rfl := sj h
      refine Af ((Av 6 0 2046 1 _ rfl rfl rfl rfl).trans ((Av 6 1 2047 1 _ rfl rfl rfl rfl).trans ((Av 6 2 2048 1 _ rfl rfl rfl rfl).trans (sm [(1000, 2046), (1001, 2047), (1002, 2048)] [(6, oD (.ptr 6 0)), (7, bD false)] [(6, .box [.own 1000, .own 1001, .own 1002]), (1000, .vec 1 ((([] : List Int)).map Ao)), (1001, .vec 1 ((([] : List Int)).map Ao)), (1002, .vec 1 ((([] : List Int)).map CF))] rfl rfl)))) (As ?_)
      exact ⟨⟨[_, _], ⟨.cellN _ _ _ _ _ _ _ rfl rfl AZ Az rfl rfl (IX rfl), tm⟩, rfl⟩, ⟨rfl, rfl, rfl, tv⟩⟩
     ·refine Ak (Ah Ax rfl (qf Bo rfl (ql A7 rfl (qm rfl ?_))))
      refine B3 h fun v57 a57 b57 h => qI Ay Do a57 (Ag b57) rfl ?_
      refine Em rfl rfl rfl rfl (Ag b57) rfl Do rfl (IU rfl) (Ei Ao ((([] : List Int)) ++ p1.fa) _ ((-1))) ?_
      refine Ac ?_
      exact sn [(2001, 18), (2002, 22), (2003, 26)] h
 ·refine wq rfl (qL AZ Az rfl (qs Az rfl (qe rfl ?_)))
  obtain rfl := sj h
  refine Af (sm [(1000, 2001), (1001, 2002), (1002, 2003)] [(6, oD (.ptr 6 0)), (7, bD true)] [(6, .box [.own 1000, .own 1001, .own 1002]), (1000, .vec 1 (v4.1.map Ao)), (1001, .vec 1 (v4.2.1.map Ao)), (1002, .vec 1 (v4.2.2.map CF))] rfl rfl) (As ?_)
  exact ⟨⟨[_, _], ⟨.cellN _ _ _ _ _ _ _ rfl rfl AZ Az rfl rfl (IX rfl), tm⟩, rfl⟩, ⟨rfl, rfl, rfl, tv⟩⟩
theorem Lk (N : Nat) (p0 : Ab) (p1 : Aa) (p2 : Aj) (r : Aa × Int) (h : EU N p0 p1 p2 = some r) : Ar uS 113 [.e (.agg (Ae p0)), .e (.agg (AA p1)), .e (.agg (DI p2))] [(1, r.1.fd.map Ao), (1, r.1.fa.map Ao), (1, r.1.fc.map CF)] (.tup [.agg [.own 0, .own 1, .own 2], .one (iC r.2)]) := by
 unfold EU at h
 refine cw (n := 73) (rs := [.cell 6 46, .tmp 7]) Tryz.func113 fun w0 S0 => ?_
 refine wq rfl (qb rfl (qb rfl (qb rfl (qz B1 rfl (qa rfl (Ac (wp rfl (qL Db CM rfl (qL AZ Az rfl ?_)))))))))
 refine BV h fun v1 a1 h => Aw [] (GS N p0 p1 v1 a1) XQ rfl (qa rfl (Ac (wq rfl (qm rfl (Ci rfl (Ac ?_))))))
 refine Bb h (fun h => ?_) fun h => ?_
 ·refine wq rfl (Br B1 Hu rfl (qm rfl (qs Az rfl (qe rfl ?_))))
  obtain rfl := sj h
  refine Af ((Av 6 0 2001 1 _ rfl rfl rfl rfl).trans ((Av 6 1 2002 1 _ rfl rfl rfl rfl).trans ((Av 6 2 2003 1 _ rfl rfl rfl rfl).trans (sm [(1000, 2001), (1001, 2002), (1002, 2003)] [(6, oD (.ptr 6 0)), (7, iD v1)] [(6, .box [.own 1000, .own 1001, .own 1002]), (1000, .vec 1 ((([] : List Int)).map Ao)), (1001, .vec 1 ((([] : List Int)).map Ao)), (1002, .vec 1 ((([] : List Int)).map CF))] rfl rfl)))) (As ?_)
  exact ⟨⟨[_, _], ⟨.cellN _ _ _ _ _ _ _ rfl rfl AZ Az rfl rfl (IX rfl), tm⟩, rfl⟩, ⟨rfl, rfl, rfl, tv⟩⟩
 ·refine Ak (wp rfl (qL IA E2 rfl ?_))
  refine BV h fun v3 a3 h => Aw [] (Lf N p2 v3 a3) Zy rfl (Cm rfl (Ac ?_))
  refine Bb h (fun h => ?_) fun h => ?_
  ·refine wq rfl (Br B1 Hu rfl (qs Az rfl (qe rfl ?_)))
   obtain rfl := sj h
   refine Af ((Av 6 0 2004 1 _ rfl rfl rfl rfl).trans ((Av 6 1 2005 1 _ rfl rfl rfl rfl).trans ((Av 6 2 2006 1 _ rfl rfl rfl rfl).trans (sm [(1000, 2004), (1001, 2005), (1002, 2006)] [(6, oD (.ptr 6 0)), (7, iD 1)] [(6, .box [.own 1000, .own 1001, .own 1002]), (1000, .vec 1 ((([] : List Int)).map Ao)), (1001, .vec 1 ((([] : List Int)).map Ao)), (1002, .vec 1 ((([] : List Int)).map CF))] rfl rfl)))) (As ?_)
   exact ⟨⟨[_, _], ⟨.cellN _ _ _ _ _ _ _ rfl rfl AZ Az rfl rfl (IX rfl), tm⟩, rfl⟩, ⟨rfl, rfl, rfl, tv⟩⟩
  ·refine Ak (AS ?_)
   refine AR h (fun v5 => mk [(3, oD (.ptr 3 0)), (4, oD (.ptr 4 0)), (5, oD (.ptr 5 0)), (6, oD (.ptr 6 0)), (45, bD v5)] [(3, .box (Ae p0)), (4, .box (AA p1)), (5, .box (DI p2)), (6, .box [.pure (.nil0), .pure (.nil0), .pure (.nil0)])]) (fun j5 h => ?_) (fun v5 h => ?_)
   ·refine Ah Ax rfl (qf Gf rfl (ql Cl rfl (BY rfl (qm rfl ?_))))
    refine Eh 25 h rfl (fun h => ?_) fun h => ?_
    ·refine qf Fn rfl (ql Cl rfl (qf CY rfl (ql Hz rfl (AL Ek rfl (Fb rfl (qp rfl (qm rfl ?_)))))))
     refine Eh 33 h rfl (fun h => ?_) fun h => ?_
     ·refine qw 4 rfl (qu rfl (qu rfl (qu rfl (qu rfl (qu rfl (qu rfl (qn rfl (qp rfl (Ac ?_)))))))))
      exact sn [] h
     ·refine qf Gf rfl (ql Cl rfl (Ci rfl (qm rfl ?_)))
      refine Eh 37 h rfl (fun h => ?_) fun h => ?_
      ·refine qf Fn rfl (ql Cl rfl (qf Bt rfl (ql A7 rfl (AL Ay rfl (Fb rfl (qp rfl (qp rfl (Ac ?_))))))))
       exact sn [] h
      ·refine qw 6 rfl (qp rfl (qp rfl (Ac ?_)))
       exact sn [] h
    ·refine qw 6 rfl (qp rfl (qm rfl (qf Gf rfl (ql Cl rfl (Ci rfl (qm rfl ?_))))))
     refine Eh 37 h rfl (fun h => ?_) fun h => ?_
     ·refine qf Fn rfl (ql Cl rfl (qf Bt rfl (ql A7 rfl (AL Ay rfl (Fb rfl (qp rfl (qp rfl (Ac ?_))))))))
      exact sn [] h
     ·refine qw 6 rfl (qp rfl (qp rfl (Ac ?_)))
      exact sn [] h
   ·refine Bb h (fun h => ?_) fun h => ?_
    ·refine wq rfl (Br B1 Hu rfl (qs Az rfl (qe rfl ?_)))
     obtain rfl := sj h
     refine Af ((Av 6 0 2007 1 _ rfl rfl rfl rfl).trans ((Av 6 1 2008 1 _ rfl rfl rfl rfl).trans ((Av 6 2 2009 1 _ rfl rfl rfl rfl).trans (sm [(1000, 2007), (1001, 2008), (1002, 2009)] [(6, oD (.ptr 6 0)), (7, iD 4)] [(6, .box [.own 1000, .own 1001, .own 1002]), (1000, .vec 1 ((([] : List Int)).map Ao)), (1001, .vec 1 ((([] : List Int)).map Ao)), (1002, .vec 1 ((([] : List Int)).map CF))] rfl rfl)))) (As ?_)
     exact ⟨⟨[_, _], ⟨.cellN _ _ _ _ _ _ _ rfl rfl AZ Az rfl rfl (IX rfl), tm⟩, rfl⟩, ⟨rfl, rfl, rfl, tv⟩⟩
    ·refine Ak (AS ?_)
     refine AR h (fun v11 => mk [(3, oD (.ptr 3 0)), (4, oD (.ptr 4 0)), (5, oD (.ptr 5 0)), (6, oD (.ptr 6 0)), (60, bD v11)] [(3, .box (Ae p0)), (4, .box (AA p1)), (5, .box (DI p2)), (6, .box [.pure (.nil0), .pure (.nil0), .pure (.nil0)])]) (fun j11 h => ?_) (fun v11 h => ?_)
     ·refine Ah Ax rfl (qf Gf rfl (ql Cl rfl (BY rfl (qm rfl ?_))))
      refine Eh 50 h rfl (fun h => ?_) fun h => ?_
      ·refine qf Hk rfl (ql Cl rfl (qf Bt rfl (ql A7 rfl (qf Fn rfl (ql Cl rfl ?_)))))
       refine B3 h fun v13 a13 b13 h => qi Ay Do a13 (Ag b13) rfl (qk Cl rfl (Fb rfl (qp rfl (AM (by kernel_rfl) ?_))))
       exact sn [] h
      ·refine qw 9 rfl (qp rfl (AM (by kernel_rfl) ?_))
       exact sn [] h
     ·refine Bb h (fun h => ?_) fun h => ?_
      ·refine wq rfl (Br B1 Hu rfl (qs Az rfl (qe rfl ?_)))
       obtain rfl := sj h
       refine Af ((Av 6 0 2010 1 _ rfl rfl rfl rfl).trans ((Av 6 1 2011 1 _ rfl rfl rfl rfl).trans ((Av 6 2 2012 1 _ rfl rfl rfl rfl).trans (sm [(1000, 2010), (1001, 2011), (1002, 2012)] [(6, oD (.ptr 6 0)), (7, iD 4)] [(6, .box [.own 1000, .own 1001, .own 1002]), (1000, .vec 1 ((([] : List Int)).map Ao)), (1001, .vec 1 ((([] : List Int)).map Ao)), (1002, .vec 1 ((([] : List Int)).map CF))] rfl rfl)))) (As ?_)
       exact ⟨⟨[_, _], ⟨.cellN _ _ _ _ _ _ _ rfl rfl AZ Az rfl rfl (IX rfl), tm⟩, rfl⟩, ⟨rfl, rfl, rfl, tv⟩⟩
      ·refine Ak (wq rfl (qL Db CM rfl (qL AZ Az rfl (qL IA E2 rfl ?_))))
       refine BV h fun v15 a15 h => Aw [2013, 2014, 2015] (GV N p0 p1 p2 v15 a15) XL rfl (qm rfl (qx rfl (qx rfl (qz B1 rfl (qs Az rfl (qa rfl (Ac (wp rfl (qm rfl (Cm rfl (Ac ?_)))))))))))
       refine Bb h (fun h => ?_) fun h => ?_
       ·refine wq rfl (Br B1 Hu rfl (qs Az rfl (qe rfl ?_)))
        obtain rfl := sj h
        refine Af ((Av 6 0 2016 1 _ rfl rfl rfl rfl).trans ((Av 6 1 2017 1 _ rfl rfl rfl rfl).trans ((Av 6 2 2018 1 _ rfl rfl rfl rfl).trans (sm [(1000, 2016), (1001, 2017), (1002, 2018)] [(6, oD (.ptr 6 0)), (7, iD 11)] [(6, .box [.own 1000, .own 1001, .own 1002]), (1000, .vec 1 ((([] : List Int)).map Ao)), (1001, .vec 1 ((([] : List Int)).map Ao)), (1002, .vec 1 ((([] : List Int)).map CF))] rfl rfl)))) (As ?_)
        exact ⟨⟨[_, _], ⟨.cellN _ _ _ _ _ _ _ rfl rfl AZ Az rfl rfl (IX rfl), tm⟩, rfl⟩, ⟨rfl, rfl, rfl, tv⟩⟩
       ·refine Ak (wq rfl (qL AZ Az rfl (qs Az rfl (qe rfl ?_))))
        obtain rfl := sj h
        refine Af (sm [(1000, 2013), (1001, 2014), (1002, 2015)] [(6, oD (.ptr 6 0)), (7, iD 0)] [(6, .box [.own 1000, .own 1001, .own 1002]), (1000, .vec 1 (v15.1.fd.map Ao)), (1001, .vec 1 (v15.1.fa.map Ao)), (1002, .vec 1 (v15.1.fc.map CF))] rfl rfl) (As ?_)
        exact ⟨⟨[_, _], ⟨.cellN _ _ _ _ _ _ _ rfl rfl AZ Az rfl rfl (IX rfl), tm⟩, rfl⟩, ⟨rfl, rfl, rfl, tv⟩⟩
theorem IK (N : Nat) (p0 : Ab) (p1 : Aa) (r : (List Aj)) (h : CE N p0 p1 = some r) : Ar uS 72 [.e (.agg (Ae p0)), .e (.agg (AA p1))] [(3, r.map AP)] (oD (.own 0)) := by
 unfold CE at h
 refine cw (n := 49) (rs := [.tmp 4]) Tryz.func72 fun w0 S0 => ?_
 refine wq rfl (qb rfl (qb rfl (qa rfl (Ac (wq rfl (qa rfl (Ac (wp rfl (qe rfl ?_)))))))))
 refine AH (L := BF N p0 p1) h (fun v1 => mk [(2, oD (.ptr 2 0)), (3, oD (.ptr 3 0)), (5, oD (.own 2001)), (6, iD v1.2)] [(2, .box (Ae p0)), (3, .box (AA p1)), (2001, .vec 3 (v1.1.map AP))]) (fun v2 => mk [(5, oD (.own 2002))] [(2002, .vec 3 (v2.map AP))]) (fun _ _ => rfl) ((Bf 5 2011 3 rfl rfl rfl).trans (sm [(2001, 2011)] _ _ rfl rfl)) (fun j1 n1 v1 h => ?_) (fun v2 s h hs => ?_)
 ·unfold BF at h
  refine wp rfl (qm rfl (XA rfl (Ac ?_)))
  refine Bb h (fun h => ?_) fun h => ?_
  ·refine Ak (AS (AO (wq rfl (qe rfl ?_))))
   refine AH (L := Cp N p0 p1 v1) h (fun v4 => mk [(2, oD (.ptr 2 0)), (3, oD (.ptr 3 0)), (5, oD (.own 2003)), (6, iD v1.2), (7, iD v4.2)] [(2, .box (Ae p0)), (3, .box (AA p1)), (2003, .vec 3 (v4.1.map AP))]) (fun v5 => mk [(2, oD (.ptr 2 0)), (3, oD (.ptr 3 0)), (5, oD (.own 2004)), (6, iD v1.2)] [(2, .box (Ae p0)), (3, .box (AA p1)), (2004, .vec 3 (v5.map AP))]) (fun _ _ => rfl) (sm [(2003, 2001)] _ _ rfl rfl) (fun j4 n4 v4 h => ?_) (fun v5 s h hs => ?_)
   ·unfold Cp at h
    refine wp rfl (qm rfl (qf Bt rfl (ql A7 rfl (AL Ay rfl (qf CY rfl (ql Hz rfl (AL Ek rfl ?_)))))))
    refine Y5 (.p rfl) rfl rfl ?_
    refine AV rfl (Ac ?_)
    refine Bb h (fun h => ?_) fun h => ?_
    ·refine Ak (AS (AO (wq rfl (qe rfl ?_))))
     refine AH (L := Cq N p0 p1 v1 v4) h (fun v7 => mk [(2, oD (.ptr 2 0)), (3, oD (.ptr 3 0)), (5, oD (.own 2005)), (6, iD v1.2), (7, iD v4.2), (8, iD v7.2)] [(2, .box (Ae p0)), (3, .box (AA p1)), (2005, .vec 3 (v7.1.map AP))]) (fun v8 => mk [(2, oD (.ptr 2 0)), (3, oD (.ptr 3 0)), (5, oD (.own 2006)), (6, iD v1.2), (7, iD v4.2)] [(2, .box (Ae p0)), (3, .box (AA p1)), (2006, .vec 3 (v8.map AP))]) (fun _ _ => rfl) (sm [(2005, 2003)] _ _ rfl rfl) (fun j7 n7 v7 h => ?_) (fun v8 s h hs => ?_)
     ·unfold Cq at h
      refine wp rfl (qm rfl (AV rfl (Ac ?_)))
      refine Bb h (fun h => ?_) fun h => ?_
      ·refine Ak ?_
       refine AR h (fun v10 => mk [(2, oD (.ptr 2 0)), (3, oD (.ptr 3 0)), (5, oD (.own 2007)), (6, iD v1.2), (7, iD v4.2), (8, iD v7.2)] [(2, .box (Ae p0)), (3, .box (AA p1)), (2007, .vec 3 (v10.map AP))]) (fun j10 h => ?_) (fun v10 h => ?_)
       ·refine AO (wq rfl (qw 3 rfl (Br JQ VX rfl (qz JQ rfl (qs E2 rfl (Ac (wq rfl (qL Db CM rfl (qL AZ Az rfl (qL IA E2 rfl ?_))))))))))
        refine BV h fun v11 a11 h => Aw [2008, 2009, 2010] (Lk N p0 p1 ((Aj.mk v1.2 v4.2 v7.2)) v11 a11) Zd rfl (qm rfl (qx rfl (qx rfl (qz B1 rfl (qs Az rfl (qa rfl (Ac (wq rfl (qm rfl (BY rfl (Ac ?_)))))))))))
        refine Bb h (fun h => ?_) fun h => ?_
        ·refine Ah Ax rfl (qm rfl (qL IA E2 rfl (DF E8 E2 JQ rfl ?_)))
         refine F4 h fun c13 h => Dp (f := AP) E8 E8 E2 Rh JQ c13 rfl (qe rfl ?_)
         exact sn [(2007, 47)] h
        ·refine Ak ?_
         exact sn [(2007, 2005)] h
       ·refine Ah Ax rfl (qm rfl (A4 rfl (qe rfl ?_)))
        exact sn [(2005, 2007)] h
      ·refine AT ?_
       exact sn [(2006, 2005)] h
     ·refine Af hs (Ah Ax rfl (qm rfl (A4 rfl (qe rfl ?_))))
      exact sn [(2003, 2006)] h
    ·refine AT ?_
     exact sn [(2004, 2003)] h
   ·refine Af hs (Ah Ax rfl (qm rfl (A4 rfl (qe rfl ?_))))
    exact sn [(2001, 2004)] h
  ·refine AT ?_
   exact sn [(2002, 2001)] h
 ·refine Af hs (wq rfl (qm rfl (qe rfl ?_)))
  obtain rfl := sj h
  refine Af (sm [(1000, 2002)] [(4, oD (.own 1000))] [(1000, .vec 3 (v2.map AP))] rfl rfl) (As ?_)
  exact ⟨⟨[_], tm, rfl⟩, ⟨rfl, tv⟩⟩
theorem Hx (N : Nat) (p0 : List Int) (p1 : List Int) (r : Int) (h : DM N p0 p1 = some r) : Ar uS 108 [pD (.sl (p0.map Ao)), pD (.sl (p1.map Ao))] [] (iD r) := by
 unfold DM at h
 refine cw (n := 46) (rs := [.tmp 4]) Tryz.func108 fun w0 S0 => ?_
 refine wq rfl (qa rfl (Ac (wp rfl (qe rfl ?_))))
 refine AH (L := DG N p0 p1) h (fun v1 => mk [(0, pD (.sl (p0.map Ao))), (1, pD (.sl (p1.map Ao))), (5, iD v1)] []) (fun v2 => mk [(0, pD (.sl (p0.map Ao))), (1, pD (.sl (p1.map Ao)))] []) (fun _ _ => rfl) (sm [] _ _ rfl rfl) (fun j1 n1 v1 h => ?_) (fun v2 s h hs => ?_)
 ·unfold DG at h
  refine AS ?_
  refine AR h (fun v3 => mk [(0, pD (.sl (p0.map Ao))), (1, pD (.sl (p1.map Ao))), (5, iD v1), (15, bD v3)] []) (fun j3 h => ?_) (fun v3 h => ?_)
  ·refine Ah Ax rfl (qw 2 rfl (AL Ay rfl (AV rfl (qm rfl ?_))))
   refine Eh 10 h rfl (fun h => ?_) fun h => ?_
   ·refine qw 2 rfl (AL Ay rfl (AV rfl (qp rfl (Ac ?_))))
    exact sn [] h
   ·refine qw 4 rfl (qp rfl (Ac ?_))
    exact sn [] h
  ·refine Bb h (fun h => ?_) fun h => ?_
   ·refine Ak (AS (AO (wp rfl (qw 2 rfl ?_))))
    refine B3 h fun v6 a6 b6 h => qi Ay Do a6 (Ag b6) rfl (qk Cl rfl (qw 2 rfl ?_))
    refine B3 h fun v7 a7 b7 h => qi Ay Do a7 (Ag b7) rfl (qk Cl rfl (AV rfl (AM (by kernel_rfl) ?_)))
    refine Bb h (fun h => ?_) fun h => ?_
    ·refine wq rfl (qe rfl ?_)
     obtain rfl := sj h
     refine Af (sm [] [(4, iD ((-1)))] [] rfl rfl) (As ?_)
     exact ⟨⟨[_], tm, rfl⟩, tv⟩
    ·refine Ak (wq rfl (qw 2 rfl ?_))
     refine B3 h fun v9 a9 b9 h => qi Ay Do a9 (Ag b9) rfl (qk Cl rfl (qw 2 rfl ?_))
     refine B3 h fun v10 a10 b10 h => qi Ay Do a10 (Ag b10) rfl (qk Cl rfl (FW rfl (AM (by kernel_rfl) ?_)))
     refine Bb h (fun h => ?_) fun h => ?_
     ·refine wq rfl (qe rfl ?_)
      obtain rfl := sj h
      refine Af (sm [] [(4, iD 1)] [] rfl rfl) (As ?_)
      exact ⟨⟨[_], tm, rfl⟩, tv⟩
     ·refine Ak (Ah Ax rfl (qm rfl (A4 rfl (qe rfl ?_))))
      exact sn [] h
   ·refine AT ?_
    exact sn [] h
 ·refine Af hs (wp rfl (qm rfl (AL Ay rfl (qm rfl (AL Ay rfl (AV rfl (Ac ?_)))))))
  refine Bb h (fun h => ?_) fun h => ?_
  ·refine wq rfl (qe rfl ?_)
   obtain rfl := sj h
   refine Af (sm [] [(4, iD ((-1)))] [] rfl rfl) (As ?_)
   exact ⟨⟨[_], tm, rfl⟩, tv⟩
  ·refine Ak (wp rfl (qm rfl (AL Ay rfl (qm rfl (AL Ay rfl (FW rfl (Ac ?_)))))))
   refine Bb h (fun h => ?_) fun h => ?_
   ·refine wq rfl (qe rfl ?_)
    obtain rfl := sj h
    refine Af (sm [] [(4, iD 1)] [] rfl rfl) (As ?_)
    exact ⟨⟨[_], tm, rfl⟩, tv⟩
   ·refine Ak (wq rfl (qe rfl ?_))
    obtain rfl := sj h
    refine Af (sm [] [(4, iD 0)] [] rfl rfl) (As ?_)
    exact ⟨⟨[_], tm, rfl⟩, tv⟩
theorem H8 (N : Nat) (p0 : List Int) (r : (List Int)) (h : DE N p0 = some r) : Ar uS 109 [pD (.sl (p0.map CF))] [(1, r.map Ao)] (oD (.own 0)) := by
 unfold DE at h
 refine cw (n := 20) (rs := [.tmp 2]) Tryz.func109 fun w0 S0 => ?_
 refine wq rfl (qa rfl (Ac (wq rfl (qa rfl (Ac (wp rfl (qe rfl ?_)))))))
 refine AH (L := C5 N p0) h (fun v1 => mk [(0, pD (.sl (p0.map CF))), (3, oD (.own 2001)), (4, iD v1.2)] [(2001, .vec 1 (v1.1.map Ao))]) (fun v2 => mk [(3, oD (.own 2002))] [(2002, .vec 1 (v2.map Ao))]) (fun _ _ => rfl) ((Bf 3 2003 1 rfl rfl rfl).trans (sm [(2001, 2003)] _ _ rfl rfl)) (fun j1 n1 v1 h => ?_) (fun v2 s h hs => ?_)
 ·unfold C5 at h
  refine wp rfl (qw 2 rfl (AL Df rfl (AV rfl (Ac ?_))))
  refine Bb h (fun h => ?_) fun h => ?_
  ·refine Ak (AS (AO (Ah Ax rfl (qw 3 rfl ?_))))
   refine B3 h fun v4 a4 b4 h => qi Df FR a4 (Ag b4) rfl (qk Ks rfl (Iw ap Vs rfl (DF Ay Do Kq rfl ?_)))
   refine F4 h fun c5 h => Dp (f := Ao) Ay Ay Do LE Kq c5 rfl (qa rfl (Ac (Ah Ax rfl (qm rfl (A4 rfl (qe rfl ?_))))))
   exact sn [(2001, 18)] h
  ·refine AT ?_
   exact sn [(2002, 2001)] h
 ·refine Af hs (wq rfl (qm rfl (qe rfl ?_)))
  obtain rfl := sj h
  refine Af (sm [(1000, 2002)] [(2, oD (.own 1000))] [(1000, .vec 1 (v2.map Ao))] rfl rfl) (As ?_)
  exact ⟨⟨[_], tm, rfl⟩, ⟨rfl, tv⟩⟩
theorem ED (N : Nat) (p0 : Aa) (p1 : Aa) (r : Int) (h : AY N p0 p1 = some r) : Ar uS 68 [.e (.agg (AA p0)), .e (.agg (AA p1))] [] (iD r) := by
 unfold AY at h
 refine cw (n := 30) (rs := [.tmp 4]) Tryz.func68 fun w0 S0 => ?_
 refine wq rfl (qb rfl (qb rfl (qa rfl (Ac (wp rfl (qf Ct rfl (ql A7 rfl (qf Ct rfl (ql A7 rfl ?_)))))))))
 refine BV h fun v1 a1 h => Aw [] (Hx N p0.fd p1.fd v1 a1) VJ rfl (qa rfl (Ac (wq rfl (qm rfl (Ci rfl (Ac ?_))))))
 refine Bb h (fun h => ?_) fun h => ?_
 ·refine wq rfl (qm rfl (qe rfl ?_))
  obtain rfl := sj h
  refine Af (sm [] [(4, iD v1)] [] rfl rfl) (As ?_)
  exact ⟨⟨[_], tm, rfl⟩, tv⟩
 ·refine Ak (wp rfl (qf Bo rfl (ql A7 rfl (qf Bo rfl (ql A7 rfl ?_)))))
  refine BV h fun v3 a3 h => Aw [] (Hx N p0.fa p1.fa v3 a3) VJ rfl (qa rfl (Ac (wq rfl (qm rfl (Ci rfl (Ac ?_))))))
  refine Bb h (fun h => ?_) fun h => ?_
  ·refine wq rfl (qm rfl (qe rfl ?_))
   obtain rfl := sj h
   refine Af (sm [] [(4, iD v3)] [] rfl rfl) (As ?_)
   exact ⟨⟨[_], tm, rfl⟩, tv⟩
  ·refine Ak (wq rfl (qf Cx rfl (ql GU rfl ?_)))
   refine BV h fun v5 a5 h => Aw [2001] (H8 N p0.fc v5 a5) Xn rfl (qf Cx rfl (ql GU rfl ?_))
   refine BV h fun v6 a6 h => Aw [2002] (H8 N p1.fc v6 a6) Xn rfl ?_
   refine BV h fun v7 a7 h => CP [] [2001, 2002] (Hx N v5 v6 v7 a7) VJ BA rfl (qa rfl (AM (by kernel_rfl) ?_))
   obtain rfl := sj h
   refine Af (sm [] [(4, iD v7)] [] rfl rfl) (As ?_)
   exact ⟨⟨[_], tm, rfl⟩, tv⟩
theorem G1 (N : Nat) (p0 : List Aa) (p1 : Aa) (r : Int × Bool) (h : Dw N p0 p1 = some r) : Ar uS 74 [pD (.sl (p0.map Al)), .e (.agg (AA p1))] [] (.tup [.one (iC r.1), .one (.pure (.val (.bool r.2)))]) := by
 unfold Dw at h
 refine cw (n := 36) (rs := [.tmp 4, .tmp 5]) Tryz.func74 fun w0 S0 => ?_
 refine wq rfl (qb rfl (qa rfl (qa rfl (Ac (wq rfl (qa rfl (Ac (AS ?_))))))))
 refine AH (L := Dt N p0 p1) h (fun v1 => mk [(0, pD (.sl (p0.map Al))), (3, oD (.ptr 3 0)), (6, iD v1)] [(3, .box (AA p1))]) (fun v2 => mk [(0, pD (.sl (p0.map Al))), (3, oD (.ptr 3 0)), (6, iD v2)] [(3, .box (AA p1))]) (fun _ _ => rfl) (sm [] _ _ rfl rfl) (fun j1 n1 v1 h => ?_) (fun v2 s h hs => ?_)
 ·unfold Dt at h
  refine AS ?_
  refine AR h (fun v3 => mk [(0, pD (.sl (p0.map Al))), (3, oD (.ptr 3 0)), (6, iD v1), (19, bD v3)] [(3, .box (AA p1))]) (fun j3 h => ?_) (fun v3 h => ?_)
  ·refine Ah Ax rfl (qw 2 rfl (AL A0 rfl (AV rfl (qm rfl ?_))))
   refine Eh 11 h rfl (fun h => ?_) fun h => ?_
   ·refine qw 2 rfl ?_
    refine B3 h fun v5 a5 b5 h => qi A0 Az a5 (Ag b5) rfl (qK AZ Az rfl (qL AZ Az rfl ?_))
    refine BV h fun v6 a6 h => Aw [] (ED N v5 p1 v6 a6) Ur rfl (AV rfl (qp rfl (AM (by kernel_rfl) ?_)))
    exact sn [] h
   ·refine qw 7 rfl (qp rfl (AM (by kernel_rfl) ?_))
    exact sn [] h
  ·refine Bb h (fun h => ?_) fun h => ?_
   ·refine Ak (AO (Ah Ax rfl (qm rfl (A4 rfl (qe rfl ?_)))))
    exact sn [] h
   ·refine AT ?_
    exact sn [] h
 ·refine Af hs ?_
  refine AR h (fun v8 => mk [(4, iD v2), (5, bD v8)] []) (fun j8 h => ?_) (fun v8 h => ?_)
  ·refine Ah Ax rfl (qw 3 rfl (AL A0 rfl (AV rfl (qm rfl ?_))))
   refine Eh 27 h rfl (fun h => ?_) fun h => ?_
   ·refine qw 2 rfl ?_
    refine B3 h fun v10 a10 b10 h => qi A0 Az a10 (Ag b10) rfl (qK AZ Az rfl (qL AZ Az rfl ?_))
    refine BV h fun v11 a11 h => Aw [] (ED N v10 p1 v11 a11) Ur rfl (BY rfl (qp rfl (qa rfl (qa rfl (AM (by kernel_rfl) ?_)))))
    exact sn [] h
   ·refine qw 7 rfl (qp rfl (qa rfl (qa rfl (AM (by kernel_rfl) ?_))))
    exact sn [] h
  ·obtain rfl := sj h
   refine Af (sm [] [(4, iD v2), (5, bD v8)] [] rfl rfl) (As ?_)
   exact ⟨⟨[_, _], ⟨.tmp _ _ rfl, tm⟩, rfl⟩, tv⟩
theorem K2 (N : Nat) (p0 : Ab) (p1 : Int) (r : (List Aa) × Bool) (h : EG N p0 p1 = some r) : Ar uS 29 [.e (.agg (Ae p0)), iD p1] [(3, r.1.map Al)] (.tup [.one (.own 0), .one (.pure (.val (.bool r.2)))]) := by
 unfold EG at h
 refine cw (n := 95) (rs := [.tmp 4, .tmp 5]) Tryz.func29 fun w0 S0 => ?_
 refine wq rfl (qb rfl (qa rfl (qa rfl (Ac (wq rfl (qL Db CM rfl ?_))))))
 refine BV h fun v1 a1 h => Aw [2001, 2002, 2003] (IL N p0 v1 a1) Z6 rfl (qm rfl (qx rfl (qx rfl (qz B1 rfl (qs Az rfl (qa rfl (Ac (wp rfl (qL Db CM rfl (qL AZ Az rfl ?_))))))))))
 refine BV h fun v2 a2 h => CP [] [2001, 2002, 2003] (El N p0 v1.1 v2 a2) Vw BA rfl (Cm rfl (Ac ?_))
 refine Bb h (fun h => ?_) fun h => ?_
 ·refine wq rfl (qa rfl (qe rfl ?_))
  obtain rfl := sj h
  refine Af ((Bf 4 2004 3 rfl rfl rfl).trans (sm [(1000, 2004)] [(4, oD (.own 1000)), (5, bD true)] [(1000, .vec 3 ((([] : List Aa)).map Al))] rfl rfl)) (As ?_)
  exact ⟨⟨[_, _], ⟨.tmp _ _ rfl, tm⟩, rfl⟩, ⟨rfl, tv⟩⟩
 ·refine Ak (wq rfl (qL AZ Az rfl (CX (AU 2001 _ _ rfl rfl) (CX (AU 2002 _ _ rfl rfl) (CX (AU 2003 _ _ rfl rfl) (DF A0 Az B1 rfl (qa rfl (Ac (wq rfl (qL AZ Az rfl (DF A0 Az B1 rfl (qa rfl (Ac (wp rfl (qe rfl ?_)))))))))))))))
  refine AH (L := CJ N p0 p1) h (fun v4 => mk [(1, iD p1), (2, oD (.ptr 2 0)), (8, oD (.own 2005)), (9, oD (.own 2006)), (10, iD v4.2.2)] [(2, .box (Ae p0)), (2005, .vec 3 (v4.1.map Al)), (2006, .vec 3 (v4.2.1.map Al))]) (fun v5 => mk [(9, oD (.own 2007))] [(2007, .vec 3 (v5.map Al))]) (fun _ _ => rfl) (sm [(2005, 27), (2006, 29)] _ _ rfl rfl) (fun j4 n4 v4 h => ?_) (fun v5 s h hs => ?_)
  ·unfold CJ at h
   refine wp rfl (qw 2 rfl (D1 A0 rfl (AV rfl (Ac ?_))))
   refine Bb h (fun h => ?_) fun h => ?_
   ·refine Ak (AS (AO (wq rfl (qL Db CM rfl (qw 2 rfl ?_)))))
    refine B3 h fun v7 a7 b7 h => qI A0 Az a7 (Ag b7) rfl (qJ AZ Az (Ag b7) rfl ?_)
    refine BV h fun v8 a8 h => Aw [2008] (IK N p0 v7 v8 a8) Z1 rfl (qa rfl (AM (by kernel_rfl) (wq rfl (qe rfl ?_))))
    refine AH (L := Cc N p0 p1 v4 v8) h (fun v9 => mk [(1, iD p1), (2, oD (.ptr 2 0)), (8, oD (.own 2009)), (9, oD (.own 2010)), (10, iD v4.2.2), (11, oD (.own 2011)), (12, iD v9.2.2)] [(2, .box (Ae p0)), (2009, .vec 3 (v9.1.map Al)), (2010, .vec 3 (v9.2.1.map Al)), (2011, .vec 3 (v8.map AP))]) (fun v10 => mk [(1, iD p1), (2, oD (.ptr 2 0)), (8, oD (.own 2012)), (9, oD (.own 2013)), (10, iD v4.2.2)] [(2, .box (Ae p0)), (2012, .vec 3 (v10.1.map Al)), (2013, .vec 3 (v10.2.map Al))]) (fun _ _ => rfl) (sm [(2009, 2005), (2010, 2006), (2011, 2008)] _ _ rfl rfl) (fun j9 n9 v9 h => ?_) (fun v10 s h hs => ?_)
    ·unfold Cc at h
     refine wp rfl (qw 2 rfl (D1 E8 rfl (AV rfl (Ac ?_))))
     refine Bb h (fun h => ?_) fun h => ?_
     ·refine Ak ?_
      refine AR h (fun v12 => mk [(1, iD p1), (2, oD (.ptr 2 0)), (8, oD (.own 2014)), (9, oD (.own 2015)), (10, iD v4.2.2), (11, oD (.own 2016)), (12, iD v9.2.2)] [(2, .box (Ae p0)), (2014, .vec 3 (v12.1.map Al)), (2015, .vec 3 (v12.2.map Al)), (2016, .vec 3 (v8.map AP))]) (fun j12 h => ?_) (fun v12 h => ?_)
      ·refine AO (wq rfl (qL Db CM rfl (qw 2 rfl ?_)))
       refine B3 h fun v13 a13 b13 h => qI A0 Az a13 (Ag b13) rfl (qJ AZ Az (Ag b13) rfl (qw 2 rfl ?_))
       refine B3 h fun v14 a14 b14 h => qI E8 E2 a14 (Ag b14) rfl (qJ IA E2 (Ag b14) rfl ?_)
       refine BV h fun v15 a15 h => Aw [2017, 2018, 2019] (GV N p0 v13 v14 v15 a15) XL rfl (qm rfl (qx rfl (qx rfl (qz B1 rfl (qs Az rfl (qa rfl (AM (by kernel_rfl) (wq rfl (qm rfl (qL AZ Az rfl ?_))))))))))
       refine BV h fun v16 a16 h => CP [] [2010, 2017, 2018, 2019] (G1 N v9.2.1 v15.1 v16 a16) X6 BA rfl (qm rfl (qx rfl (qx rfl (qa rfl (qa rfl (Ac (AS ?_)))))))
       refine AR h (fun v17 => mk [(1, iD p1), (2, oD (.ptr 2 0)), (8, oD (.own 2023)), (9, oD (.own 2024)), (10, iD v4.2.2), (11, oD (.own 2025)), (12, iD v9.2.2), (13, oD (.ptr 13 0)), (15, iD v16.1), (73, bD v17)] [(2, .box (Ae p0)), (13, .box [.own 2020, .own 2021, .own 2022]), (2020, .vec 1 (v15.1.fd.map Ao)), (2021, .vec 1 (v15.1.fa.map Ao)), (2022, .vec 1 (v15.1.fc.map CF)), (2023, .vec 3 (v9.1.map Al)), (2024, .vec 3 (v9.2.1.map Al)), (2025, .vec 3 (v8.map AP))]) (fun j17 h => ?_) (fun v17 h => ?_)
       ·refine Ah Ax rfl (qw 2 rfl ?_)
        refine Eh 68 h rfl (fun h => ?_) fun h => ?_
        ·refine qw 4 rfl (qp rfl (Ac ?_))
         exact sn [(2020, 2017), (2021, 2018), (2022, 2019), (2023, 2009), (2024, 2010), (2025, 2011)] h
        ·refine qL Db CM rfl (qL AZ Az rfl ?_)
         refine BV h fun v19 a19 h => CP [] [2017, 2018, 2019] (El N p0 v15.1 v19 a19) Vw BA rfl (Cm rfl (qp rfl (Ac ?_)))
         exact sn [(2020, 2017), (2021, 2018), (2022, 2019), (2023, 2009), (2024, 2010), (2025, 2011)] h
       ·refine Bb h (fun h => ?_) fun h => ?_
        ·refine AT ?_
         exact sn [(2014, 2023), (2015, 2024), (2016, 2025)] h
        ·refine Ak (wq rfl (qm rfl (qL AZ Az rfl (CX (AU 2020 _ _ rfl rfl) (CX (AU 2021 _ _ rfl rfl) (CX (AU 2022 _ _ rfl rfl) (DF A0 Az B1 rfl ?_)))))))
         refine F4 h fun c21 h => Dp (f := Al) A0 A0 Az Lp B1 c21 rfl (qa rfl (Ac (AS (Af (AU 2024 _ _ rfl rfl) (Ah Ax rfl (DF A0 Az B1 rfl (qw 2 rfl ?_)))))))
         refine F4 h fun c22 h => Tw (.p rfl) rfl A0 Az (MD (f := Al) (n := 3) (fun _ => rfl) _) (.none _) (.some _ _ _ _ c22.1) tv ⟨rfl, tv⟩ (by have := c22.2.1; (try simp only [vT]); omega) (by have := c22.2.2; (try simp only [vT]); omega) (Rb Al v9.2.1 _ _ ((v16.1).toNat - 0) rfl) ?_
         refine F4 h fun c23 h => I0 (f := Al) A0 A0 Az Lp B1 (fun _ => rfl) c23 rfl (qL AZ Az rfl (DF A0 Az B1 rfl ?_))
         refine F4 h fun c24 h => Dp (f := Al) A0 A0 Az Lp B1 c24 rfl (qw 2 rfl ?_)
         refine F4 h fun c25 h => Tw (.p rfl) rfl A0 Az (MD (f := Al) (n := 3) (fun _ => rfl) _) (.some _ _ _ _ c25.1) (.none _) ⟨rfl, tv⟩ tv (by have := c25.2.1; (try simp only [vT]); omega) (by have := c25.2.2; (try simp only [vT]); omega) (Rb Al v9.2.1 _ _ (v9.2.1.length - (v16.1).toNat) (by rw [vT])) ?_
         refine F4 h fun c26 h => I0 (f := Al) A0 A0 Az Lp B1 (fun _ => rfl) c26 rfl (qa rfl (AM (by kernel_rfl) (wq rfl (qm rfl (D1 A0 rfl (qm rfl (FW rfl (Ac ?_))))))))
         refine Bb h (fun h => ?_) fun h => ?_
         ·refine wq rfl (qa rfl (qe rfl ?_))
          obtain rfl := sj h
          refine Af ((Bf 4 2026 3 rfl rfl rfl).trans (sm [(1000, 2026)] [(4, oD (.own 1000)), (5, bD false)] [(1000, .vec 3 ((([] : List Aa)).map Al))] rfl rfl)) (As ?_)
          exact ⟨⟨[_, _], ⟨.tmp _ _ rfl, tm⟩, rfl⟩, ⟨rfl, tv⟩⟩
         ·refine Ak ?_
          exact sn [(2014, 77), (2015, 89), (2016, 2025)] h
      ·refine Ah Ax rfl (qm rfl (A4 rfl (qe rfl ?_)))
       exact sn [(2009, 2014), (2010, 2015), (2011, 2016)] h
     ·refine AT ?_
      exact sn [(2012, 2009), (2013, 2010)] h
    ·refine Af hs (Ah Ax rfl (qm rfl (A4 rfl (qe rfl ?_))))
     exact sn [(2005, 2012), (2006, 2013)] h
   ·refine AT ?_
    exact sn [(2007, 2006)] h
  ·refine Af hs (wq rfl (qm rfl (qa rfl (qe rfl ?_))))
   obtain rfl := sj h
   refine Af (sm [(1000, 2007)] [(4, oD (.own 1000)), (5, bD true)] [(1000, .vec 3 (v5.map Al))] rfl rfl) (As ?_)
   exact ⟨⟨[_, _], ⟨.tmp _ _ rfl, tm⟩, rfl⟩, ⟨rfl, tv⟩⟩
theorem Ld (N : Nat) (p0 : BN) (r : Ab × (List Aa) × Bool) (h : FG N p0 = some r) : Ar uS 10 [.e (.agg (CZ p0))] [(3, r.2.1.map Al)] (.tup [.agg (Ae r.1), .one (.own 0), .one (.pure (.val (.bool r.2.2)))]) := by
 unfold FG at h
 refine cw (n := 25) (rs := [.cell 2 29, .tmp 3, .tmp 4]) Tryz.func10 fun w0 S0 => ?_
 refine wq rfl (qb rfl (qz R4 rfl (qa rfl (qa rfl (Ac (wq rfl (qL ZS Za rfl ?_)))))))
 refine BV h fun v1 a1 h => Aw [2001, 2002, 2003, 2004] (MQ N p0 v1 a1) aj rfl (qm rfl (qx rfl (qx rfl (qz R4 rfl (qs CM rfl (qa rfl (Ac (wp rfl (qm rfl (Cm rfl (Ac ?_)))))))))))
 refine Bb h (fun h => ?_) fun h => ?_
 ·refine wq rfl (qL Db CM rfl (qs CM rfl (qa rfl (qe rfl ?_))))
  obtain rfl := sj h
  refine Af ((Bf 3 2005 3 rfl rfl rfl).trans ((AU 2001 _ _ rfl rfl).trans ((AU 2002 _ _ rfl rfl).trans ((AU 2003 _ _ rfl rfl).trans ((AU 2004 _ _ rfl rfl).trans (sm [(1000, 2005)] [(2, oD (.ptr 2 0)), (3, oD (.own 1000)), (4, bD false)] [(2, .box (Ae v1.1)), (1000, .vec 3 ((([] : List Aa)).map Al))] rfl rfl)))))) (As ?_)
  exact ⟨⟨[_, _, _], ⟨.cellN _ _ _ _ _ _ _ rfl rfl Db CM rfl rfl (IX rfl), ⟨.tmp _ _ rfl, tm⟩⟩, rfl⟩, ⟨rfl, tv⟩⟩
 ·refine Ak (wq rfl (qL Db CM rfl (CX (AU 2001 _ _ rfl rfl) (CX (AU 2002 _ _ rfl rfl) (CX (AU 2003 _ _ rfl rfl) (CX (AU 2004 _ _ rfl rfl) ?_))))))
  refine BV h fun v3 a3 h => Aw [2006] (K2 N v1.1 300 v3 a3) bA rfl (qm rfl (qx rfl (qx rfl (qa rfl (qa rfl (Ac (wq rfl (qL Db CM rfl (qw 2 rfl (qs CM rfl (qa rfl (qe rfl ?_))))))))))))
  obtain rfl := sj h
  refine Af (sm [(1000, 2006)] [(2, oD (.ptr 2 0)), (3, oD (.own 1000)), (4, bD v3.2)] [(2, .box (Ae v1.1)), (1000, .vec 3 (v3.1.map Al))] rfl rfl) (As ?_)
  exact ⟨⟨[_, _, _], ⟨.cellN _ _ _ _ _ _ _ rfl rfl Db CM rfl rfl (IX rfl), ⟨.tmp _ _ rfl, tm⟩⟩, rfl⟩, ⟨rfl, tv⟩⟩
theorem Di (N : Nat) (r : Ab) (h : B9 N = some r) : Ar uS 39 [] [(1, r.fb.map Ao), (1, r.fi.map Ao), (1, r.fj.map Ao), (6, r.fe.map Bh)] (.e (.agg [.own 0, .own 1, .own 2, .own 3])) := by
 unfold B9 at h
 refine cw (n := 10) (rs := [.cell 0 29]) Tryz.func39 fun w0 S0 => ?_
 refine wq rfl (qz R4 rfl (Ac (wq rfl (DF Ay Do Kq rfl (DF Ay Do Kq rfl (DF Ay Do Kq rfl (DF Ha Rd WN rfl (DF Ha Rd WN rfl (CX (AU 4 _ _ rfl rfl) (CX (AU 5 _ _ rfl rfl) (DF GR NE Yt rfl (Br Lj Zq rfl (CX (AU 6 _ _ rfl rfl) (DF Ek Ex Lj rfl (Br R4 Z0 rfl (qs CM rfl (Ac ?_)))))))))))))))))
 obtain rfl := sj h
 refine Af (sm [(1000, 1), (1001, 2), (1002, 3), (1003, 8)] [(0, oD (.ptr 0 0))] [(0, .box [.own 1000, .own 1001, .own 1002, .own 1003]), (1000, .vec 1 ((([2] : List Int)).map Ao)), (1001, .vec 1 ((([0] : List Int)).map Ao)), (1002, .vec 1 ((([1] : List Int)).map Ao)), (1003, .vec 6 ((([(AC.mk 1 0 0 false (([([true, true] : List Bool), ([false, true] : List Bool)] : List (List Bool))) (([] : List (List Bool))))] : List AC)).map Bh))] rfl rfl) (As ?_)
 exact ⟨⟨[_], ⟨.cellN _ _ _ _ _ _ _ rfl rfl Db CM rfl rfl (IX rfl), tv⟩, rfl⟩, ⟨rfl, rfl, rfl, rfl, tv⟩⟩
theorem HQ (N : Nat) (p0 : Int) (p1 : Int) (r : Bool) (h : EA N p0 p1 = some r) : Ar uS 102 [iD p0, iD p1] [] (bD r) := by
 unfold EA at h
 refine cw (n := 12) (rs := [.tmp 4]) Tryz.func102 fun w0 S0 => ?_
 refine wq rfl (qe rfl ?_)
 refine AR h (fun v1 => mk [(4, bD v1)] []) (fun j1 h => ?_) (fun v1 h => ?_)
 ·refine Ah Ax rfl (qm rfl (Fb rfl (qm rfl ?_)))
  refine Eh 7 h rfl (fun h => ?_) fun h => ?_
  ·refine qw 2 rfl (AV rfl (qp rfl (qe rfl ?_)))
   exact sn [] h
  ·refine qw 3 rfl (qp rfl (qe rfl ?_))
   exact sn [] h
 ·obtain rfl := sj h
  refine Af (sm [] [(4, bD v1)] [] rfl rfl) (As ?_)
  exact ⟨⟨[_], tm, rfl⟩, tv⟩
theorem Qt (N : Nat) (p0 : Int) (p1 : Bool) (r : Bool) (h : Hc N p0 p1 = some r) : Ar uS 130 [iD p0, bD p1] [] (bD r) := by
 unfold Hc at h
 refine cw (n := 23) (rs := [.tmp 4]) Tryz.func130 fun w0 S0 => ?_
 refine wq rfl (qe rfl ?_)
 refine AR h (fun v1 => mk [(4, bD v1)] []) (fun j1 h => ?_) (fun v1 h => ?_)
 ·refine Ah Ax rfl (qm rfl (BY rfl (qm rfl ?_)))
  refine Eh 7 h rfl (fun h => ?_) fun h => ?_
  ·refine qw 2 rfl (qp rfl (qw 4 rfl (qu rfl (qu rfl (qw 2 rfl (qu rfl (qu rfl (qn rfl (qp rfl (qe rfl ?_))))))))))
   exact sn [] h
  ·refine qm rfl (BY rfl (qp rfl (qm rfl ?_)))
   refine Eh 11 h rfl (fun h => ?_) fun h => ?_
   ·refine qw 3 rfl (qu rfl (qu rfl (qw 2 rfl (qu rfl (qu rfl (qn rfl (qp rfl (qe rfl ?_))))))))
    exact sn [] h
   ·refine qm rfl (BY rfl (qm rfl ?_))
    refine Eh 14 h rfl (fun h => ?_) fun h => ?_
    ·refine qw 2 rfl (qp rfl (qw 2 rfl (Cm rfl (qp rfl (qp rfl (qe rfl ?_))))))
     exact sn [] h
    ·refine qm rfl (BY rfl (qp rfl (qm rfl ?_)))
     refine Eh 18 h rfl (fun h => ?_) fun h => ?_
     ·refine qm rfl (Cm rfl (qp rfl (qp rfl (qe rfl ?_))))
      exact sn [] h
     ·refine qw 2 rfl (qp rfl (qp rfl (qe rfl ?_)))
      exact sn [] h
 ·obtain rfl := sj h
  refine Af (sm [] [(4, bD v1)] [] rfl rfl) (As ?_)
  exact ⟨⟨[_], tm, rfl⟩, tv⟩
theorem M6 (N : Nat) (p0 : List Bool) (p1 : Int) (r : Bool) (h : Ej N p0 p1 = some r) : Ar uS 160 [pD (.sl (p0.map eB)), oD (.rop [.val (.int .i64 p1)])] [] (bD r) := by
 unfold Ej at h
 refine cw (n := 8) (rs := [.tmp 3]) Tryz.func160 fun w0 S0 => ?_
 refine wq rfl (qa rfl (Ac (wq rfl (qm rfl (AL Ha rfl (qk Cl rfl (Ci rfl (qe rfl ?_))))))))
 obtain rfl := sj h
 refine Af (sm [] [(3, bD (((p0.length : Int) != p1)))] [] rfl rfl) (As ?_)
 exact ⟨⟨[_], tm, rfl⟩, tv⟩
theorem Iv (N : Nat) (p0 : List (List Bool)) (p1 : (List Bool) → Option Bool) (r : Int) (h : DN N p0 p1 = some r) : Ar uS 170 [pD (.sl (p0.map (Mj eB))), oD (.clo (HT (M1 false (Mj eB)) tB p1))] [] (iD r) := by
 unfold DN at h
 refine cw (n := 19) (rs := [.tmp 4]) Tryz.func170 fun w0 S0 => ?_
 refine wq rfl (qa rfl (Ac (wp rfl (qm rfl (AL GR rfl (qm rfl (Ac ?_)))))))
 refine AH (L := Bv N p0 p1) h (fun v1 => mk [(0, pD (.sl (p0.map (Mj eB)))), (1, oD (.clo (HT (M1 false (Mj eB)) tB p1))), (7, iD ((p0.length : Int))), (8, iD v1)] []) (fun v2 => mk [] []) (fun _ _ => rfl) (sm [] _ _ rfl rfl) (fun j1 n1 v1 h => ?_) (fun v2 s h hs => ?_)
 ·unfold Bv at h
  refine wq rfl (AV rfl (Ac (AS ?_)))
  refine Bb h (fun h => ?_) fun h => ?_
  ·refine Ak (AS (AO (wq rfl (qm rfl (qa rfl (Ac (wq rfl (qw 3 rfl ?_))))))))
   refine B3 h fun v4 a4 b4 h => qi GR NE a4 (Ag b4) rfl (qk QS rfl ?_)
   refine BV h fun v5 a5 h => Kp (ds0 := [_]) (ar := (M1 false (Mj eB)) v4) (.p rfl) rfl rfl ⟨rfl, tv⟩ rfl rfl rfl (JC (Mx _ _ (YS ak)) a5) ?_
   refine Ac ?_
   refine Bb h (fun h => ?_) fun h => ?_
   ·refine wq rfl (qm rfl (qe rfl ?_))
    obtain rfl := sj h
    refine Af (sm [] [(4, iD v1)] [] rfl rfl) (As ?_)
    exact ⟨⟨[_], tm, rfl⟩, tv⟩
   ·refine Ak (Ah Ax rfl (A4 rfl (qm rfl (Ac ?_))))
    exact sn [] h
  ·refine AT ?_
   exact sn [] h
 ·refine Af hs (wq rfl (qe rfl ?_))
  obtain rfl := sj h
  refine Af (sm [] [(4, iD ((-1)))] [] rfl rfl) (As ?_)
  exact ⟨⟨[_], tm, rfl⟩, tv⟩
theorem H5 (N : Nat) (p0 : List (List Bool)) (p1 : (List Bool) → Option Bool) (r : Bool) (h : Dn N p0 p1 = some r) : Ar uS 159 [pD (.sl (p0.map (Mj eB))), oD (.clo (HT (M1 false (Mj eB)) tB p1))] [] (bD r) := by
 unfold Dn at h
 refine cw (n := 9) (rs := [.tmp 4]) Tryz.func159 fun w0 S0 => ?_
 refine wq rfl (qa rfl (Ac (wq rfl (qw 2 rfl ?_))))
 refine BV h fun v1 a1 h => Aw [] (Iv N p0 p1 v1 a1) ZL rfl (Fb rfl (qe rfl ?_))
 obtain rfl := sj h
 refine Af (sm [] [(4, bD ((decide (0 ≤ v1))))] [] rfl rfl) (As ?_)
 exact ⟨⟨[_], tm, rfl⟩, tv⟩
theorem KO (N : Nat) (p0 : List (List Bool)) (p1 : Int) (p2 : Int) (r : Bool) (h : Fw N p0 p1 p2 = some r) : Ar uS 131 [pD (.sl (p0.map (Mj eB))), iD p1, iD p2] [] (bD r) := by
 unfold Fw at h
 refine cw (n := 17) (rs := [.tmp 6]) Tryz.func131 fun w0 S0 => ?_
 refine wq rfl (qb rfl (qe rfl ?_))
 refine AR h (fun v1 => mk [(6, bD v1)] []) (fun j1 h => ?_) (fun v1 h => ?_)
 ·refine Ah Ax rfl (qm rfl (AL GR rfl (qm rfl (BY rfl (qm rfl ?_)))))
  refine Eh 11 h rfl (fun h => ?_) fun h => ?_
  ·refine qm rfl (CX (K0 5 [.val (.int .i64 p2)] rfl rfl) ?_)
   refine Kj (capD := [_]) (HT (M1 false (Mj eB)) tB ((fun (x : List Bool) => Ej N x p2))) (.g rfl rfl) ZU rfl ⟨rfl, tv⟩ rfl (fun ar t ht => by obtain ⟨x, r, rfl, hq, rfl⟩ := GI ht; exact M6 N x p2 r hq) ?_
   refine BV h fun v3 a3 h => Aw [] (H5 N p0 ((fun (x : List Bool) => Ej N x p2)) v3 a3) ZN rfl (Cm rfl (qp rfl (qe rfl ?_)))
   exact sn [] h
  ·refine qw 4 rfl (qp rfl (qe rfl ?_))
   exact sn [] h
 ·obtain rfl := sj h
  refine Af (sm [] [(6, bD v1)] [] rfl rfl) (As ?_)
  exact ⟨⟨[_], tm, rfl⟩, tv⟩
theorem OZ (N : Nat) (p0 : Ab) (p1 : AC) (r : Int) (h : GD N p0 p1 = some r) : Ar uS 103 [.e (.agg (Ae p0)), .e (.agg (Bs p1))] [] (iD r) := by
 unfold GD at h
 refine cw (n := 87) (rs := [.tmp 4]) Tryz.func103 fun w0 S0 => ?_
 refine wq rfl (qb rfl (qb rfl (qa rfl (Ac (wp rfl (qf Gw rfl (ql Cl rfl (qf JF rfl (ql Ti rfl ?_)))))))))
 refine BV h fun v1 a1 h => Aw [] (Qt N p1.ff p1.fp v1 a1) YM rfl (Cm rfl (Ac ?_))
 refine Bb h (fun h => ?_) fun h => ?_
 ·refine wq rfl (qe rfl ?_)
  obtain rfl := sj h
  refine Af (sm [] [(4, iD 1)] [] rfl rfl) (As ?_)
  exact ⟨⟨[_], tm, rfl⟩, tv⟩
 ·refine Ak (AS ?_)
  refine AR h (fun v3 => mk [(2, oD (.ptr 2 0)), (3, oD (.ptr 3 0)), (29, bD v3)] [(2, .box (Ae p0)), (3, .box (Bs p1))]) (fun j3 h => ?_) (fun v3 h => ?_)
  ·refine Ah Ax rfl (qf Dl rfl (ql Cl rfl (qf Bt rfl (ql A7 rfl (AL Ay rfl ?_)))))
   refine BV h fun v4 a4 h => Aw [] (HQ N p1.fg ((p0.fb.length : Int)) v4 a4) TI rfl (Cm rfl (qm rfl ?_))
   refine Eh 21 h rfl (fun h => ?_) fun h => ?_
   ·refine qw 7 rfl (qp rfl (Ac ?_))
    exact sn [] h
   ·refine qf IQ rfl (ql Cl rfl (qf Bt rfl (ql A7 rfl (AL Ay rfl ?_))))
    refine BV h fun v6 a6 h => Aw [] (HQ N p1.fk ((p0.fb.length : Int)) v6 a6) TI rfl (Cm rfl (qp rfl (Ac ?_)))
    exact sn [] h
  ·refine Bb h (fun h => ?_) fun h => ?_
   ·refine wq rfl (qe rfl ?_)
    obtain rfl := sj h
    refine Af (sm [] [(4, iD 4)] [] rfl rfl) (As ?_)
    exact ⟨⟨[_], tm, rfl⟩, tv⟩
   ·refine Ak (wq rfl (qf Bt rfl (ql A7 rfl (qf Dl rfl (ql Cl rfl ?_)))))
    refine B3 h fun v8 a8 b8 h => qi Ay Do a8 (Ag b8) rfl (qk Cl rfl (qa rfl (Ac (wq rfl (qf Gw rfl (ql Cl rfl (BY rfl (qa rfl (Ac (AS ?_))))))))))
    refine AR h (fun v9 => mk [(3, oD (.ptr 3 0)), (70, bD v9)] [(3, .box (Bs p1))]) (fun j9 h => ?_) (fun v9 h => ?_)
    ·refine Ah Ax rfl (qf Ko rfl (ql KQ rfl (qm rfl (qf Bt rfl (ql A7 rfl (qf IQ rfl (ql Cl rfl ?_)))))))
     refine B3 h fun v10 a10 b10 h => qi Ay Do a10 (Ag b10) rfl (qk Cl rfl ?_)
     refine BV h fun v11 a11 h => Aw [] (KO N p1.fq v8 v10 v11 a11) XD rfl (Cm rfl (qm rfl ?_))
     refine Eh 50 h rfl (fun h => ?_) fun h => ?_
     ·refine qw 2 rfl (qu rfl (qu rfl (qu rfl (qu rfl (qu rfl (qu rfl (qn rfl (qp rfl (qw 4 rfl (qu rfl (qu rfl (qu rfl (qu rfl (qn rfl (qp rfl (AM (by kernel_rfl) ?_))))))))))))))))
      exact sn [] h
     ·refine qw 2 rfl ?_
      refine Eh 52 h rfl (fun h => ?_) fun h => ?_
      ·refine qf Hm rfl (ql KQ rfl (qw 2 rfl ?_))
       refine BV h fun v14 a14 h => Aw [] (KO N p1.fo v8 v8 v14 a14) XD rfl (Cm rfl (qp rfl (qp rfl (qm rfl ?_))))
       refine Eh 61 h rfl (fun h => ?_) fun h => ?_
       ·refine qw 3 rfl (qu rfl (qu rfl (qu rfl (qu rfl (qn rfl (qp rfl (AM (by kernel_rfl) ?_)))))))
        exact sn [] h
       ·refine qm rfl (Cm rfl (qm rfl ?_))
        refine Eh 64 h rfl (fun h => ?_) fun h => ?_
        ·refine qf Hm rfl (ql KQ rfl (AL GR rfl (FW rfl (qp rfl (qp rfl (AM (by kernel_rfl) ?_))))))
         exact sn [] h
        ·refine qw 4 rfl (qp rfl (qp rfl (AM (by kernel_rfl) ?_)))
         exact sn [] h
      ·refine qw 6 rfl (qp rfl (qp rfl (qw 2 rfl (Cm rfl (qm rfl ?_)))))
       refine Eh 64 h rfl (fun h => ?_) fun h => ?_
       ·refine qf Hm rfl (ql KQ rfl (AL GR rfl (FW rfl (qp rfl (qp rfl (AM (by kernel_rfl) ?_))))))
        exact sn [] h
       ·refine qw 4 rfl (qp rfl (qp rfl (AM (by kernel_rfl) ?_)))
        exact sn [] h
    ·refine Bb h (fun h => ?_) fun h => ?_
     ·refine wq rfl (qe rfl ?_)
      obtain rfl := sj h
      refine Af (sm [] [(4, iD 6)] [] rfl rfl) (As ?_)
      exact ⟨⟨[_], tm, rfl⟩, tv⟩
     ·refine Ak (wp rfl (qf Hm rfl (ql KQ rfl (AL GR rfl (qm rfl (Ac ?_))))))
      refine AH (L := DB N p1) h (fun v19 => mk [(3, oD (.ptr 3 0)), (73, iD ((p1.fo.length : Int))), (74, iD v19)] [(3, .box (Bs p1))]) (fun v20 => mk [] []) (fun _ _ => rfl) (sm [] _ _ rfl rfl) (fun j19 n19 v19 h => ?_) (fun v20 s h hs => ?_)
      ·unfold DB at h
       refine wq rfl (AV rfl (Ac (AS ?_)))
       refine Bb h (fun h => ?_) fun h => ?_
       ·refine Ak (AS (AO (wq rfl (qm rfl (qa rfl (Ac (wq rfl (qf Hm rfl (ql KQ rfl (qm rfl ?_))))))))))
        refine B3 h fun v22 a22 b22 h => qi GR NE a22 (Ag b22) rfl (qk QS rfl (qm rfl ?_))
        refine B3 h fun v23 a23 b23 h => qi Ha Rd a23 (Ag b23) rfl (qk Ti rfl (Cm rfl (Ac ?_)))
        refine Bb h (fun h => ?_) fun h => ?_
        ·refine wq rfl (qe rfl ?_)
         obtain rfl := sj h
         refine Af (sm [] [(4, iD 1)] [] rfl rfl) (As ?_)
         exact ⟨⟨[_], tm, rfl⟩, tv⟩
        ·refine Ak (Ah Ax rfl (A4 rfl (qm rfl (Ac ?_))))
         exact sn [] h
       ·refine AT ?_
        exact sn [] h
      ·refine Af hs (wq rfl (qe rfl ?_))
       obtain rfl := sj h
       refine Af (sm [] [(4, iD 0)] [] rfl rfl) (As ?_)
       exact ⟨⟨[_], tm, rfl⟩, tv⟩
theorem FA (N : Nat) (p0 : Ab) (r : Int) (h : CO N p0 = some r) : Ar uS 58 [.e (.agg (Ae p0))] [] (iD r) := by
 unfold CO at h
 refine cw (n := 81) (rs := [.tmp 2]) Tryz.func58 fun w0 S0 => ?_
 refine wq rfl (qb rfl (qa rfl (Ac (wq rfl (qf Bt rfl (ql A7 rfl (AL Ay rfl (qa rfl (Ac (AS ?_))))))))))
 refine AR h (fun v1 => mk [(1, oD (.ptr 1 0)), (3, iD ((p0.fb.length : Int))), (19, bD v1)] [(1, .box (Ae p0))]) (fun j1 h => ?_) (fun v1 h => ?_)
 ·refine Ah Ax rfl (qm rfl (FW rfl (qm rfl ?_)))
  refine Eh 14 h rfl (fun h => ?_) fun h => ?_
  ·refine qw 4 rfl (qp rfl (Ac ?_))
   exact sn [] h
  ·refine qf CY rfl (ql Hz rfl (AL Ek rfl (FW rfl (qp rfl (Ac ?_)))))
   exact sn [] h
 ·refine Bb h (fun h => ?_) fun h => ?_
  ·refine wq rfl (qe rfl ?_)
   obtain rfl := sj h
   refine Af (sm [] [(2, iD 3)] [] rfl rfl) (As ?_)
   exact ⟨⟨[_], tm, rfl⟩, tv⟩
  ·refine Ak (AS ?_)
   refine AR h (fun v4 => mk [(1, oD (.ptr 1 0)), (31, bD v4)] [(1, .box (Ae p0))]) (fun j4 h => ?_) (fun v4 h => ?_)
   ·refine Ah Ax rfl (qf Hp rfl (ql A7 rfl (AL Ay rfl (qm rfl (Ci rfl (qm rfl ?_))))))
    refine Eh 25 h rfl (fun h => ?_) fun h => ?_
    ·refine qw 5 rfl (qp rfl (Ac ?_))
     exact sn [] h
    ·refine qf Ig rfl (ql A7 rfl (AL Ay rfl (qm rfl (Ci rfl (qp rfl (Ac ?_))))))
     exact sn [] h
   ·refine Bb h (fun h => ?_) fun h => ?_
    ·refine wq rfl (qe rfl ?_)
     obtain rfl := sj h
     refine Af (sm [] [(2, iD 6)] [] rfl rfl) (As ?_)
     exact ⟨⟨[_], tm, rfl⟩, tv⟩
    ·refine Ak (wp rfl (qf Bt rfl (ql A7 rfl (AL Ay rfl (qm rfl (Ac ?_))))))
     refine AH (L := Cb N p0) h (fun v7 => mk [(1, oD (.ptr 1 0)), (33, pD (.sl (p0.fb.map Ao))), (34, iD ((p0.fb.length : Int))), (35, iD v7)] [(1, .box (Ae p0))]) (fun v8 => mk [(1, oD (.ptr 1 0))] [(1, .box (Ae p0))]) (fun _ _ => rfl) (sm [] _ _ rfl rfl) (fun j7 n7 v7 h => ?_) (fun v8 s h hs => ?_)
     ·unfold Cb at h
      refine wq rfl (AV rfl (Ac (AS ?_)))
      refine Bb h (fun h => ?_) fun h => ?_
      ·refine Ak (AS (AO (wq rfl (qm rfl ?_))))
       refine B3 h fun v10 a10 b10 h => qi Ay Do a10 (Ag b10) rfl (qk Cl rfl (qa rfl (qe rfl ?_)))
       refine AR h (fun v11 => mk [(1, oD (.ptr 1 0)), (33, pD (.sl (p0.fb.map Ao))), (34, iD ((p0.fb.length : Int))), (35, iD v7), (65, bD v11)] [(1, .box (Ae p0))]) (fun j11 h => ?_) (fun v11 h => ?_)
       ·refine Ah Ax rfl (qm rfl (AV rfl (qm rfl ?_)))
        refine Eh 42 h rfl (fun h => ?_) fun h => ?_
        ·refine qw 2 rfl (qp rfl (qw 9 rfl (qp rfl (qw 9 rfl (qp rfl (Ac ?_))))))
         exact sn [] h
        ·refine qm rfl (FW rfl (qp rfl (qm rfl ?_)))
         refine Eh 46 h rfl (fun h => ?_) fun h => ?_
         ·refine qw 8 rfl (qp rfl (qw 9 rfl (qp rfl (Ac ?_))))
          exact sn [] h
         ·refine qf Hp rfl (ql A7 rfl (qm rfl ?_))
          refine B3 h fun v14 a14 b14 h => qi Ay Do a14 (Ag b14) rfl (qk Cl rfl (qm rfl ?_))
          refine BV h fun v15 a15 h => Aw [] (HQ N v14 v10 v15 a15) TI rfl (Cm rfl (qp rfl (qm rfl ?_)))
          refine Eh 56 h rfl (fun h => ?_) fun h => ?_
          ·refine qw 8 rfl (qp rfl (Ac ?_))
           exact sn [] h
          ·refine qf Ig rfl (ql A7 rfl (qm rfl ?_))
           refine B3 h fun v17 a17 b17 h => qi Ay Do a17 (Ag b17) rfl (qk Cl rfl (qm rfl ?_))
           refine BV h fun v18 a18 h => Aw [] (HQ N v17 v10 v18 a18) TI rfl (Cm rfl (qp rfl (Ac ?_)))
           exact sn [] h
       ·refine Bb h (fun h => ?_) fun h => ?_
        ·refine wq rfl (qe rfl ?_)
         obtain rfl := sj h
         refine Af (sm [] [(2, iD 7)] [] rfl rfl) (As ?_)
         exact ⟨⟨[_], tm, rfl⟩, tv⟩
        ·refine Ak (Ah Ax rfl (A4 rfl (qm rfl (Ac ?_))))
         exact sn [] h
      ·refine AT ?_
       exact sn [] h
     ·refine Af hs (wp rfl (qf CY rfl (ql Hz rfl (AL Ek rfl (qm rfl (Ac ?_))))))
      refine AH (L := B8 N p0) h (fun v20 => mk [(1, oD (.ptr 1 0)), (68, pD (.sl (p0.fe.map Bh))), (69, iD ((p0.fe.length : Int))), (70, iD v20)] [(1, .box (Ae p0))]) (fun v21 => mk [] []) (fun _ _ => rfl) (sm [] _ _ rfl rfl) (fun j20 n20 v20 h => ?_) (fun v21 s h hs => ?_)
      ·unfold B8 at h
       refine wq rfl (AV rfl (Ac (AS ?_)))
       refine Bb h (fun h => ?_) fun h => ?_
       ·refine Ak (AS (AO (wq rfl ?_)))
        refine B3 h fun v23 a23 b23 h => qi Ek Ex a23 (Ag b23) rfl (qK HM Ex rfl (qz Lj rfl (qs Ex rfl (Ac (wq rfl (qL Db CM rfl (qL HM Ex rfl ?_)))))))
        refine BV h fun v24 a24 h => Aw [] (OZ N p0 v23 v24 a24) Ze rfl (qa rfl (Ac (wq rfl (qm rfl (Ci rfl (Ac ?_))))))
        refine Bb h (fun h => ?_) fun h => ?_
        ·refine wq rfl (qm rfl (qe rfl ?_))
         obtain rfl := sj h
         refine Af (sm [] [(2, iD v24)] [] rfl rfl) (As ?_)
         exact ⟨⟨[_], tm, rfl⟩, tv⟩
        ·refine Ak (Ah Ax rfl (A4 rfl (qm rfl (Ac ?_))))
         exact sn [] h
       ·refine AT ?_
        exact sn [] h
      ·refine Af hs (wq rfl (qe rfl ?_))
       obtain rfl := sj h
       refine Af (sm [] [(2, iD 0)] [] rfl rfl) (As ?_)
       exact ⟨⟨[_], tm, rfl⟩, tv⟩
theorem C8 (N : Nat) (p0 : List Int) (r : (List Int)) (h : Bm N p0 = some r) : Ar uS 66 [pD (.sl (p0.map Ao))] [(1, r.map Ao)] (oD (.own 0)) := by
 unfold Bm at h
 refine cw (n := 8) (rs := [.tmp 2]) Tryz.func66 fun w0 S0 => ?_
 refine wq rfl (qa rfl (Ac (wp rfl (qm rfl ?_))))
 refine Qp (.p rfl) rfl Ay ?_
 refine Ac ?_
 refine QJ rfl (fun c2 => ?_) ?_
 ·have c2 := zH1.1 c2
  rw [c2] at h
  have h : (some (([] : List Int))) = some r := h
  refine wq rfl (qe rfl ?_)
  obtain rfl := sj h
  refine Af ((Bf 2 2001 1 rfl rfl rfl).trans (sm [(1000, 2001)] [(2, oD (.own 1000))] [(1000, .vec 1 ((([] : List Int)).map Ao))] rfl rfl)) (As ?_)
  exact ⟨⟨[_], tm, rfl⟩, ⟨rfl, tv⟩⟩
 ·refine Ak (wq rfl (DF Ay Do Kq rfl (qm rfl ?_)))
  refine F4 h fun c1 h => I0 (f := Ao) Ay Ay Do LE Kq (fun _ => rfl) c1 rfl (qe rfl ?_)
  obtain rfl := sj h
  refine Af (sm [(1000, 7)] [(2, oD (.own 1000))] [(1000, .vec 1 (((([] : List Int)) ++ p0).map Ao))] rfl rfl) (As ?_)
  exact ⟨⟨[_], tm, rfl⟩, ⟨rfl, tv⟩⟩
theorem Mk (N : Nat) (p0 : Int) (p1 : Int) (r : Int × Int) (h : HA N p0 p1 = some r) : Ar uS 153 [pD (.val (.int .u32 p0)), pD (.val (.int .u32 p1))] [] (.tup [.one (.pure (.val (.int .u32 r.1))), .one (.pure (.val (.int .u32 r.2)))]) := by
 unfold HA at h
 refine cw (n := 17) (rs := [.tmp 4, .tmp 5]) Tryz.func153 fun w0 S0 => ?_
 refine wq rfl (qa rfl (qa rfl (Ac (wq rfl (qm rfl (Iw TD Xp rfl (qm rfl (Iw TD Xp rfl (Np rfl (qa rfl (Ac (wq rfl (qm rfl (Jv rfl (by decide) (Iw XI SX rfl (qm rfl (Iw XI SX rfl (qa rfl (qe rfl ?_)))))))))))))))))))
 obtain rfl := sj h
 refine Af (sm [] [(4, pD (.val (.int .u32 ((wI .u32 ((Fo .u64 ((wI .u64 ((wI .u64 p0) * (wI .u64 p1)))) 32))))))), (5, pD (.val (.int .u32 ((wI .u32 ((wI .u64 ((wI .u64 p0) * (wI .u64 p1)))))))))] [] rfl rfl) (As ?_)
 exact ⟨⟨[_, _], ⟨.tmp _ _ rfl, tm⟩, rfl⟩, tv⟩
theorem MF (N : Nat) (p0 : Int) (p1 : Int) (r : Int × Int) (h : Ht N p0 p1 = some r) : Ar uS 154 [pD (.val (.int .u64 p0)), pD (.val (.int .u64 p1))] [] (.tup [.one (.pure (.val (.int .u64 r.1))), .one (.pure (.val (.int .u64 r.2)))]) := by
 unfold Ht at h
 refine cw (n := 51) (rs := [.tmp 4, .tmp 5]) Tryz.func154 fun w0 S0 => ?_
 refine wq rfl (qa rfl (qa rfl (Ac (wq rfl (qm rfl (Mu rfl (qa rfl (Ac (wq rfl (qm rfl (Jv rfl (by decide) (qa rfl (Ac (wq rfl (qm rfl (Mu rfl (qa rfl (Ac (wq rfl (qm rfl (Jv rfl (by decide) (qa rfl (Ac (wq rfl (qw 2 rfl (Np rfl (qa rfl (Ac (wq rfl (qw 2 rfl ?_))))))))))))))))))))))))))))))
 refine Np rfl (qm rfl (Jv rfl (by decide) (A4 rfl (qa rfl (Ac (wq rfl (qm rfl (Mu rfl (qa rfl (Ac (wq rfl (qm rfl (Jv rfl (by decide) (qa rfl (Ac (wq rfl (qw 3 rfl (Np rfl (A4 rfl (qa rfl (Ac (wq rfl (qw 2 rfl (Np rfl (qm rfl (A4 rfl (qm rfl (Jv rfl (by decide) (A4 rfl (qa rfl (Ac (AS ?_))))))))))))))))))))))))))))))))
 refine Ah Ax rfl (qw 2 rfl (Np rfl (qe rfl ?_)))
 obtain rfl := sj h
 refine Af (sm [] [(4, pD (.val (.int .u64 ((wI .u64 ((wI .u64 ((wI .u64 ((Fo .u64 p0 32) * (Fo .u64 p1 32))) + (Fo .u64 ((wI .u64 ((wI .u64 ((Fo .u64 p0 32) * (F5 .u64 p1 4294967295))) + (Fo .u64 ((wI .u64 ((F5 .u64 p0 4294967295) * (F5 .u64 p1 4294967295)))) 32)))) 32))) + (Fo .u64 ((wI .u64 ((F5 .u64 ((wI .u64 ((wI .u64 ((Fo .u64 p0 32) * (F5 .u64 p1 4294967295))) + (Fo .u64 ((wI .u64 ((F5 .u64 p0 4294967295) * (F5 .u64 p1 4294967295)))) 32)))) 4294967295) + (wI .u64 ((F5 .u64 p0 4294967295) * (Fo .u64 p1 32)))))) 32))))))), (5, pD (.val (.int .u64 ((wI .u64 (p0 * p1))))))] [] rfl rfl) (As ?_)
 exact ⟨⟨[_, _], ⟨.tmp _ _ rfl, tm⟩, rfl⟩, tv⟩
theorem NF (N : Nat) (p0 : Int) (p1 : Int) (r : Int × Int) (h : Ie N p0 p1 = some r) : Ar uS 120 [pD (.val (.int .u64 p0)), pD (.val (.int .u64 p1))] [] (.tup [.one (.pure (.val (.int .u64 r.1))), .one (.pure (.val (.int .u64 r.2)))]) := by
 unfold Ie at h
 refine cw (n := 30) (rs := [.tmp 4, .tmp 5]) Tryz.func120 fun w0 S0 => ?_
 refine wq rfl (qa rfl (qa rfl (Ac (AS ?_))))
 refine Bb h (fun h => ?_) fun h => ?_
 ·refine wq rfl (qm rfl (Iw TG SX rfl (qm rfl (Iw TG SX rfl ?_))))
  refine BV h fun v2 a2 h => Aw [] (Mk N ((wI .u32 p0)) ((wI .u32 p1)) v2 a2) YP rfl (qm rfl (qx rfl (qx rfl (qa rfl (qa rfl (Ac (wq rfl (qm rfl (Iw TD Rc rfl (qm rfl (Iw TD Rc rfl (qa rfl (qe rfl ?_)))))))))))))
  obtain rfl := sj h
  refine Af (sm [] [(4, pD (.val (.int .u64 ((wI .u64 v2.1))))), (5, pD (.val (.int .u64 ((wI .u64 v2.2)))))] [] rfl rfl) (As ?_)
  exact ⟨⟨[_, _], ⟨.tmp _ _ rfl, tm⟩, rfl⟩, tv⟩
 ·refine Ak (wq rfl (qw 2 rfl ?_))
  refine BV h fun v3 a3 h => Aw [] (MF N p0 p1 v3 a3) ZQ rfl (qm rfl (qx rfl (qx rfl (qa rfl (qa rfl (Ac (wq rfl (qw 2 rfl (qa rfl (qe rfl ?_))))))))))
  obtain rfl := sj h
  refine Af (sm [] [(4, pD (.val (.int .u64 v3.1))), (5, pD (.val (.int .u64 v3.2)))] [] rfl rfl) (As ?_)
  exact ⟨⟨[_, _], ⟨.tmp _ _ rfl, tm⟩, rfl⟩, tv⟩
theorem JX (N : Nat) (p0 : List Int) (p1 : Int) (r : (List Int)) (h : EP N p0 p1 = some r) : Ar uS 90 [pD (.sl (p0.map Ao)), iD p1] [(1, r.map Ao)] (oD (.own 0)) := by
 unfold EP at h
 refine cw (n := 48) (rs := [.tmp 4]) Tryz.func90 fun w0 S0 => ?_
 refine wq rfl (qe rfl ?_)
 refine AR h (fun v1 => mk [(0, pD (.sl (p0.map Ao))), (1, iD p1)] []) (fun j1 h => ?_) (fun v1 h => ?_)
 ·refine wq rfl (qm rfl (AV rfl (Ac ?_)))
  refine Bb h (fun h => ?_) fun h => ?_
  ·refine Ah Ax rfl ?_
   cases h
  ·refine Ak ?_
   exact sn [] h
 ·refine wq rfl (qm rfl (AL Ay rfl (Iw YF Rc rfl (qm rfl (Iw YF Rc rfl ?_)))))
  refine BV h fun v3 a3 h => Aw [] (NF N ((wI .u64 ((p0.length : Int)))) ((wI .u64 p1)) v3 a3) YJ rfl (qm rfl (qx rfl (qx rfl (qa rfl (qe rfl ?_)))))
  refine AR h (fun v4 => mk [(0, pD (.sl (p0.map Ao))), (6, pD (.val (.int .u64 v3.2)))] []) (fun j4 h => ?_) (fun v4 h => ?_)
  ·refine AR h (fun v5 => mk [(0, pD (.sl (p0.map Ao))), (6, pD (.val (.int .u64 v3.2))), (26, bD v5)] []) (fun j5 h => ?_) (fun v5 h => ?_)
   ·refine Ah Ax rfl (qm rfl (FW rfl (qm rfl ?_)))
    refine Eh 23 h rfl (fun h => ?_) fun h => ?_
    ·refine qw 2 rfl (qp rfl (Ac ?_))
     exact sn [] h
    ·refine qm rfl (FW rfl (qp rfl (Ac ?_)))
     exact sn [] h
   ·refine Bb h (fun h => ?_) fun h => ?_
    ·refine Ah Ax rfl ?_
     cases h
    ·refine Ak ?_
     exact sn [] h
  ·refine wq rfl (qm rfl (Iw TG Vs rfl ?_))
   refine F4 h fun c8 h => Ny (.p rfl) rfl rfl rfl Ay Do LE (IU rfl) Kq rfl rfl rfl c8.1 c8.2.1 c8.2.2 (TK Ao _ ((0 : Int))) ?_
   refine qa rfl (Ac (wq rfl (qw 2 rfl ?_)))
   refine TJ Ao (uY ((wI .i64 v3.2)).toNat ((0 : Int))) p0 (.p rfl) rfl (G8 Ao _ _ (uY ((wI .i64 v3.2)).toNat ((0 : Int)))) rfl rfl (W7 Ao _ _ (fun _ => rfl)) tv Ay Do ?_
   refine qa rfl (Ac (AS ?_))
   refine AH (L := Ee N) h (fun v9 => mk [(7, oD (.own 2001)), (8, iD v9.2)] [(2001, .vec 1 (v9.1.map Ao))]) (fun v10 => mk [(7, oD (.own 2002))] [(2002, .vec 1 (v10.map Ao))]) (fun _ _ => rfl) (sm [(2001, 30)] _ _ rfl rfl) (fun j9 n9 v9 h => ?_) (fun v10 s h hs => ?_)
   ·unfold Ee at h
    refine wp rfl (qw 2 rfl (D1 Ay rfl (AV rfl (Ac ?_))))
    refine Bb h (fun h => ?_) fun h => ?_
    ·refine Ak (AO (Ah Ax rfl (qw 3 rfl ?_)))
     obtain ⟨c12, h⟩ := ET h
     have w13 : ((v9.2).toNat) + ((v9.1.length - (v9.2).toNat)) ≤ v9.1.length := by have := c12.2.1; have := c12.2.2; omega
     refine Hb Ao v9.1 (.p rfl) rfl (G8 Ao _ _ v9.1) rfl Ay Do (.some _ _ _ _ c12.1) (.none _) ⟨rfl, tv⟩ tv c12.2.1 (by rw [uT]; exact c12.2.2) (uT _) rfl ?_
     refine qw 2 rfl ?_
     obtain ⟨c14, h⟩ := ET h
     have w15 : 0 + ((v9.2).toNat) ≤ v9.1.length := by have := c14.2.1; have := c14.2.2; omega
     refine Hb Ao v9.1 (.p rfl) rfl (G8 Ao _ _ v9.1) rfl Ay Do (.none _) (.some _ _ _ _ c14.1) tv ⟨rfl, tv⟩ c14.2.1 (by rw [uT]; exact c14.2.2) (uT _) rfl ?_
     refine TJ Ao v9.1 (((v9.1.drop 0).take ((v9.2).toNat))) (.p rfl) rfl (IW Ao _ _ ((v9.2).toNat) ((v9.1.length - (v9.2).toNat)) v9.1 w13) rfl rfl (P2 Ao _ _ 0 ((v9.2).toNat) v9.1 w15) ⟨rfl, tv⟩ Ay Do ?_
     refine A4 rfl (qa rfl (AM (by kernel_rfl) ?_))
     exact sn [] h
    ·refine AT ?_
     exact sn [(2002, 2001)] h
   ·refine Af hs (wq rfl (qm rfl (qe rfl ?_)))
    obtain rfl := sj h
    refine Af (sm [(1000, 2002)] [(4, oD (.own 1000))] [(1000, .vec 1 (v10.map Ao))] rfl rfl) (As ?_)
    exact ⟨⟨[_], tm, rfl⟩, ⟨rfl, tv⟩⟩
theorem Ka (N : Nat) (p0 : AC) (r : Bool) (h : FN N p0 = some r) : Ar uS 91 [.e (.agg (Bs p0))] [] (bD r) := by
 unfold FN at h
 refine cw (n := 11) (rs := [.tmp 2]) Tryz.func91 fun w0 S0 => ?_
 refine wq rfl (qb rfl (qe rfl ?_))
 refine AR h (fun v1 => mk [(2, bD v1)] []) (fun j1 h => ?_) (fun v1 h => ?_)
 ·refine Ah Ax rfl (qf Gw rfl (ql Cl rfl (BY rfl (qm rfl ?_))))
  refine Eh 6 h rfl (fun h => ?_) fun h => ?_
  ·refine qw 3 rfl (qp rfl (qe rfl ?_))
   exact sn [] h
  ·refine qf Gw rfl (ql Cl rfl (BY rfl (qp rfl (qe rfl ?_))))
   exact sn [] h
 ·obtain rfl := sj h
  refine Af (sm [] [(2, bD v1)] [] rfl rfl) (As ?_)
  exact ⟨⟨[_], tm, rfl⟩, tv⟩
theorem Ns (N : Nat) (p0 : Ab) (r : Aa × Int) (h : GN N p0 = some r) : Ar uS 44 [.e (.agg (Ae p0))] [(1, r.1.fd.map Ao), (1, r.1.fa.map Ao), (1, r.1.fc.map CF)] (.tup [.agg [.own 0, .own 1, .own 2], .one (iC r.2)]) := by
 unfold GN at h
 refine cw (n := 50) (rs := [.cell 2 46, .tmp 3]) Tryz.func44 fun w0 S0 => ?_
 refine wq rfl (qb rfl (qz B1 rfl (qa rfl (Ac (wp rfl (qL Db CM rfl ?_))))))
 refine BV h fun v1 a1 h => Aw [] (FA N p0 v1 a1) Wp rfl (qa rfl (Ac (wq rfl (qm rfl (Ci rfl (Ac ?_))))))
 refine Bb h (fun h => ?_) fun h => ?_
 ·refine wq rfl (Br B1 Hu rfl (qm rfl (qs Az rfl (qe rfl ?_))))
  obtain rfl := sj h
  refine Af ((Av 2 0 2001 1 _ rfl rfl rfl rfl).trans ((Av 2 1 2002 1 _ rfl rfl rfl rfl).trans ((Av 2 2 2003 1 _ rfl rfl rfl rfl).trans (sm [(1000, 2001), (1001, 2002), (1002, 2003)] [(2, oD (.ptr 2 0)), (3, iD v1)] [(2, .box [.own 1000, .own 1001, .own 1002]), (1000, .vec 1 ((([] : List Int)).map Ao)), (1001, .vec 1 ((([] : List Int)).map Ao)), (1002, .vec 1 ((([] : List Int)).map CF))] rfl rfl)))) (As ?_)
  exact ⟨⟨[_, _], ⟨.cellN _ _ _ _ _ _ _ rfl rfl AZ Az rfl rfl (IX rfl), tm⟩, rfl⟩, ⟨rfl, rfl, rfl, tv⟩⟩
 ·refine Ak (wq rfl (qf Hp rfl (ql A7 rfl ?_)))
  refine BV h fun v3 a3 h => Aw [2004] (C8 N p0.fi v3 a3) SK rfl (DF Ay Do Kq rfl (qf Hp rfl (ql A7 rfl (AL Ay rfl ?_))))
  refine BV h fun v4 a4 h => CP [2005] [17] (JX N (([(-1)] : List Int)) ((p0.fi.length : Int)) v4 a4) al (I5 (fun _ => rfl) BA) rfl (qf CY rfl (ql Hz rfl (AL Ek rfl ?_)))
  refine F4 h fun c5 h => Ny (.p rfl) rfl rfl rfl Df FR PY (IU rfl) M3 rfl rfl rfl c5.1 c5.2.1 c5.2.2 (TK CF _ ((0 : Int))) ?_
  refine Br B1 Hu rfl (qz B1 rfl (qs Az rfl (AM (by kernel_rfl) (wp rfl (qf CY rfl (ql Hz rfl (AL Ek rfl (qm rfl (Ac ?_)))))))))
  refine AH (L := EB N p0) h (fun v6 => mk [(1, oD (.ptr 1 0)), (2, oD (.ptr 2 0)), (5, oD (.ptr 5 0)), (28, pD (.sl (p0.fe.map Bh))), (29, iD ((p0.fe.length : Int))), (30, iD v6.2)] [(1, .box (Ae p0)), (2, .box [.pure (.nil0), .pure (.nil0), .pure (.nil0)]), (5, .box [.own 2006, .own 2007, .own 2008]), (2006, .vec 1 (v3.map Ao)), (2007, .vec 1 (v4.map Ao)), (2008, .vec 1 (v6.1.map CF))]) (fun v7 => mk [(2, oD (.ptr 2 0)), (5, oD (.ptr 5 0))] [(2, .box [.pure (.nil0), .pure (.nil0), .pure (.nil0)]), (5, .box [.own 2009, .own 2010, .own 2011]), (2009, .vec 1 (v3.map Ao)), (2010, .vec 1 (v4.map Ao)), (2011, .vec 1 (v7.map CF))]) (fun _ _ => rfl) (sm [(2006, 2004), (2007, 2005), (2008, 25)] _ _ rfl rfl) (fun j6 n6 v6 h => ?_) (fun v7 s h hs => ?_)
  ·unfold EB at h
   refine wq rfl (AV rfl (Ac (AS ?_)))
   refine Bb h (fun h => ?_) fun h => ?_
   ·refine Ak ?_
    refine AR h (fun v9 => mk [(1, oD (.ptr 1 0)), (2, oD (.ptr 2 0)), (5, oD (.ptr 5 0)), (28, pD (.sl (p0.fe.map Bh))), (29, iD ((p0.fe.length : Int))), (30, iD v6.2)] [(1, .box (Ae p0)), (2, .box [.pure (.nil0), .pure (.nil0), .pure (.nil0)]), (5, .box [.own 2012, .own 2013, .own 2014]), (2012, .vec 1 (v3.map Ao)), (2013, .vec 1 (v4.map Ao)), (2014, .vec 1 (v9.map CF))]) (fun j9 h => ?_) (fun v9 h => ?_)
    ·refine AO (wq rfl (qm rfl ?_))
     refine B3 h fun v10 a10 b10 h => qi Ek Ex a10 (Ag b10) rfl (qK HM Ex rfl (qz Lj rfl (qa rfl (qs Ex rfl (Ac (wq rfl (qL HM Ex rfl ?_)))))))
     refine BV h fun v11 a11 h => Aw [] (Ka N v10 v11 a11) X0 rfl (Ac ?_)
     refine Bb h (fun h => ?_) fun h => ?_
     ·refine Ah Ax rfl (qf Cx rfl (ql GU rfl (qm rfl (qf Hp rfl (ql A7 rfl (qf Dl rfl (ql Cl rfl ?_)))))))
      refine B3 h fun v13 a13 b13 h => qi Ay Do a13 (Ag b13) rfl (qk Cl rfl ?_)
      refine F4 h fun c14 h => Jm rfl c14 ?_
      refine B3 h fun v15 a15 b15 h => qI Df FR a15 (Ag b15) rfl ?_
      refine Em rfl rfl rfl rfl (Ag b15) rfl FR rfl (IU rfl) (Ei CF v6.1 _ ((D7 .u8 1 v13))) ?_
      refine AM (by kernel_rfl) ?_
      exact sn [(2012, 2006), (2013, 2007), (2014, 2008)] h
     ·refine Ak ?_
      exact sn [(2012, 2006), (2013, 2007), (2014, 2008)] h
    ·refine Ah Ax rfl (A4 rfl (qm rfl (Ac ?_)))
     exact sn [(2006, 2012), (2007, 2013), (2008, 2014)] h
   ·refine AT ?_
    exact sn [(2009, 2006), (2010, 2007), (2011, 2008)] h
  ·refine Af hs (wq rfl (qL AZ Az rfl (qs Az rfl (qe rfl ?_))))
   obtain rfl := sj h
   refine Af (sm [(1000, 2009), (1001, 2010), (1002, 2011)] [(2, oD (.ptr 2 0)), (3, iD 0)] [(2, .box [.own 1000, .own 1001, .own 1002]), (1000, .vec 1 (v3.map Ao)), (1001, .vec 1 (v4.map Ao)), (1002, .vec 1 (v7.map CF))] rfl rfl) (As ?_)
   exact ⟨⟨[_, _], ⟨.cellN _ _ _ _ _ _ _ rfl rfl AZ Az rfl rfl (IX rfl), tm⟩, rfl⟩, ⟨rfl, rfl, rfl, tv⟩⟩
theorem JN (N : Nat) (p0 : Aa) (p1 : Int) (r : Int) (h : Fh N p0 p1 = some r) : Ar uS 107 [.e (.agg (AA p0)), iD p1] [] (pD (.val (.int .u8 r))) := by
 unfold Fh at h
 refine cw (n := 27) (rs := [.tmp 4]) Tryz.func107 fun w0 S0 => ?_
 refine wq rfl (qb rfl (qa rfl (Ac (wq rfl (qf Ct rfl (ql A7 rfl (qm rfl ?_)))))))
 refine B3 h fun v1 a1 b1 h => qi Ay Do a1 (Ag b1) rfl (qk Cl rfl ?_)
 refine F4 h fun c2 h => Jm rfl c2 (qe rfl ?_)
 refine AR h (fun v3 => mk [(5, pD (.val (.int .u8 v3)))] []) (fun j3 h => ?_) (fun v3 h => ?_)
 ·refine wq rfl (qf Bo rfl (ql A7 rfl (qm rfl ?_)))
  refine B3 h fun v4 a4 b4 h => qi Ay Do a4 (Ag b4) rfl (qk Cl rfl (Fb rfl (Ac ?_)))
  refine Bb h (fun h => ?_) fun h => ?_
  ·refine Ah Ax rfl (qm rfl (qf Bo rfl (ql A7 rfl (qm rfl ?_))))
   refine B3 h fun v6 a6 b6 h => qi Ay Do a6 (Ag b6) rfl (qk Cl rfl ?_)
   refine F4 h fun c7 h => Jm rfl c7 (TN rfl (qe rfl ?_))
   exact sn [] h
  ·refine Ak ?_
   exact sn [] h
 ·refine wq rfl (qm rfl (qe rfl ?_))
  obtain rfl := sj h
  refine Af (sm [] [(4, pD (.val (.int .u8 v3)))] [] rfl rfl) (As ?_)
  exact ⟨⟨[_], tm, rfl⟩, tv⟩
theorem Il (N : Nat) (p0 : Ab) (p1 : Aa) (r : Int) (h : E9 N p0 p1 = some r) : Ar uS 65 [.e (.agg (Ae p0)), .e (.agg (AA p1))] [] (iD r) := by
 unfold E9 at h
 refine cw (n := 135) (rs := [.tmp 4]) Tryz.func65 fun w0 S0 => ?_
 refine wq rfl (qb rfl (qb rfl (qa rfl (Ac (wp rfl (qL Db CM rfl ?_))))))
 refine BV h fun v1 a1 h => Aw [] (FA N p0 v1 a1) Wp rfl (qa rfl (Ac (wq rfl (qm rfl (Ci rfl (Ac ?_))))))
 refine Bb h (fun h => ?_) fun h => ?_
 ·refine wq rfl (qm rfl (qe rfl ?_))
  obtain rfl := sj h
  refine Af (sm [] [(4, iD v1)] [] rfl rfl) (As ?_)
  exact ⟨⟨[_], tm, rfl⟩, tv⟩
 ·refine Ak (AS ?_)
  refine AR h (fun v3 => mk [(2, oD (.ptr 2 0)), (3, oD (.ptr 3 0)), (41, bD v3)] [(2, .box (Ae p0)), (3, .box (AA p1))]) (fun j3 h => ?_) (fun v3 h => ?_)
  ·refine Ah Ax rfl (qf Ct rfl (ql A7 rfl (AL Ay rfl (qf Bt rfl (ql A7 rfl (AL Ay rfl (Ci rfl (qm rfl ?_))))))))
   refine Eh 24 h rfl (fun h => ?_) fun h => ?_
   ·refine qw 7 rfl (qp rfl (qw 8 rfl (qp rfl (Ac ?_))))
    exact sn [] h
   ·refine qf Bo rfl (ql A7 rfl (AL Ay rfl (qf Bt rfl (ql A7 rfl (AL Ay rfl (Ci rfl (qp rfl (qm rfl ?_))))))))
    refine Eh 33 h rfl (fun h => ?_) fun h => ?_
    ·refine qw 7 rfl (qp rfl (Ac ?_))
     exact sn [] h
    ·refine qf Cx rfl (ql GU rfl (AL Df rfl (qf CY rfl (ql Hz rfl (AL Ek rfl (Ci rfl (qp rfl (Ac ?_))))))))
     exact sn [] h
  ·refine Bb h (fun h => ?_) fun h => ?_
   ·refine wq rfl (qe rfl ?_)
    obtain rfl := sj h
    refine Af (sm [] [(4, iD 6)] [] rfl rfl) (As ?_)
    exact ⟨⟨[_], tm, rfl⟩, tv⟩
   ·refine Ak (wp rfl (qf Bt rfl (ql A7 rfl (AL Ay rfl (qm rfl (Ac ?_))))))
    refine AH (L := Ez N p0 p1) h (fun v7 => mk [(2, oD (.ptr 2 0)), (3, oD (.ptr 3 0)), (43, pD (.sl (p0.fb.map Ao))), (44, iD ((p0.fb.length : Int))), (45, iD v7)] [(2, .box (Ae p0)), (3, .box (AA p1))]) (fun v8 => mk [(2, oD (.ptr 2 0)), (3, oD (.ptr 3 0))] [(2, .box (Ae p0)), (3, .box (AA p1))]) (fun _ _ => rfl) (sm [] _ _ rfl rfl) (fun j7 n7 v7 h => ?_) (fun v8 s h hs => ?_)
    ·unfold Ez at h
     refine wq rfl (AV rfl (Ac (AS ?_)))
     refine Bb h (fun h => ?_) fun h => ?_
     ·refine Ak (AS (AO (wq rfl (qm rfl ?_))))
      refine B3 h fun v10 a10 b10 h => qi Ay Do a10 (Ag b10) rfl (qk Cl rfl (qa rfl (qa rfl (Ac (AS ?_)))))
      refine AR h (fun v11 => mk [(2, oD (.ptr 2 0)), (3, oD (.ptr 3 0)), (6, iD v7), (43, pD (.sl (p0.fb.map Ao))), (44, iD ((p0.fb.length : Int))), (45, iD v7), (81, bD v11)] [(2, .box (Ae p0)), (3, .box (AA p1))]) (fun j11 h => ?_) (fun v11 h => ?_)
      ·refine Ah Ax rfl (qf Ct rfl (ql A7 rfl (qm rfl ?_)))
       refine B3 h fun v12 a12 b12 h => qi Ay Do a12 (Ag b12) rfl (qk Cl rfl (AV rfl (qm rfl ?_)))
       refine Eh 56 h rfl (fun h => ?_) fun h => ?_
       ·refine qw 7 rfl (qp rfl (qw 7 rfl (qp rfl (qw 8 rfl (qp rfl (Ac ?_))))))
        exact sn [] h
       ·refine qf Ct rfl (ql A7 rfl (qm rfl ?_))
        refine B3 h fun v14 a14 b14 h => qi Ay Do a14 (Ag b14) rfl (qk Cl rfl (qm rfl (Fb rfl (qp rfl (qm rfl ?_)))))
        refine Eh 65 h rfl (fun h => ?_) fun h => ?_
        ·refine qw 6 rfl (qp rfl (qw 8 rfl (qp rfl (Ac ?_))))
         exact sn [] h
        ·refine qf Bo rfl (ql A7 rfl (qm rfl ?_))
         refine B3 h fun v16 a16 b16 h => qi Ay Do a16 (Ag b16) rfl (qk Cl rfl (AV rfl (qp rfl (qm rfl ?_))))
         refine Eh 73 h rfl (fun h => ?_) fun h => ?_
         ·refine qw 7 rfl (qp rfl (Ac ?_))
          exact sn [] h
         ·refine qf Bo rfl (ql A7 rfl (qm rfl ?_))
          refine B3 h fun v18 a18 b18 h => qi Ay Do a18 (Ag b18) rfl (qk Cl rfl (qm rfl (Fb rfl (qp rfl (Ac ?_)))))
          exact sn [] h
      ·refine Bb h (fun h => ?_) fun h => ?_
       ·refine wq rfl (qe rfl ?_)
        obtain rfl := sj h
        refine Af (sm [] [(4, iD 7)] [] rfl rfl) (As ?_)
        exact ⟨⟨[_], tm, rfl⟩, tv⟩
       ·refine Ak (wq rfl (qf Ct rfl (ql A7 rfl (qm rfl ?_))))
        refine B3 h fun v20 a20 b20 h => qi Ay Do a20 (Ag b20) rfl (qk Cl rfl (qf Bo rfl (ql A7 rfl (qm rfl ?_))))
        refine B3 h fun v21 a21 b21 h => qi Ay Do a21 (Ag b21) rfl (qk Cl rfl (BY rfl (AM (by kernel_rfl) ?_)))
        refine Bb h (fun h => ?_) fun h => ?_
        ·refine wq rfl (qe rfl ?_)
         obtain rfl := sj h
         refine Af (sm [] [(4, iD 1)] [] rfl rfl) (As ?_)
         exact ⟨⟨[_], tm, rfl⟩, tv⟩
        ·refine Ak (Ah Ax rfl (A4 rfl (qm rfl (Ac ?_))))
         exact sn [] h
     ·refine AT ?_
      exact sn [] h
    ·refine Af hs (wp rfl (qf CY rfl (ql Hz rfl (AL Ek rfl (qm rfl (Ac ?_))))))
     refine AH (L := Ea N p0 p1) h (fun v23 => mk [(2, oD (.ptr 2 0)), (3, oD (.ptr 3 0)), (95, pD (.sl (p0.fe.map Bh))), (96, iD ((p0.fe.length : Int))), (97, iD v23)] [(2, .box (Ae p0)), (3, .box (AA p1))]) (fun v24 => mk [] []) (fun _ _ => rfl) (sm [] _ _ rfl rfl) (fun j23 n23 v23 h => ?_) (fun v24 s h hs => ?_)
     ·unfold Ea at h
      refine wq rfl (AV rfl (Ac (AS ?_)))
      refine Bb h (fun h => ?_) fun h => ?_
      ·refine Ak (AS (AO (wq rfl (qm rfl ?_))))
       refine B3 h fun v26 a26 b26 h => qi Ek Ex a26 (Ag b26) rfl (qK HM Ex rfl (qz Lj rfl (qa rfl (qs Ex rfl (Ac (wq rfl (qa rfl (qe rfl ?_))))))))
       refine AR h (fun v27 => mk [(2, oD (.ptr 2 0)), (3, oD (.ptr 3 0)), (8, iD v23), (10, pD (.val (.int .u8 v27.1))), (11, pD (.val (.int .u8 v27.2))), (95, pD (.sl (p0.fe.map Bh))), (96, iD ((p0.fe.length : Int))), (97, iD v23)] [(2, .box (Ae p0)), (3, .box (AA p1))]) (fun j27 h => ?_) (fun v27 h => ?_)
       ·refine wq rfl (qL HM Ex rfl ?_)
        refine BV h fun v28 a28 h => Aw [] (Ka N v26 v28 a28) X0 rfl (Ac ?_)
        refine Bb h (fun h => ?_) fun h => ?_
        ·refine Ah Ax rfl (qL AZ Az rfl (qf Dl rfl (ql Cl rfl ?_)))
         refine BV h fun v30 a30 h => Aw [] (JN N p1 v26.fg v30 a30) V1 rfl (qf Bt rfl (ql A7 rfl (qf Dl rfl (ql Cl rfl ?_))))
         refine B3 h fun v31 a31 b31 h => qi Ay Do a31 (Ag b31) rfl (qk Cl rfl ?_)
         refine F4 h fun c32 h => Jm rfl c32 (Lr rfl (qa rfl (qa rfl (AM (by kernel_rfl) ?_))))
         exact sn [] h
        ·refine Ak ?_
         exact sn [] h
       ·refine AR h (fun v33 => mk [(2, oD (.ptr 2 0)), (3, oD (.ptr 3 0)), (95, pD (.sl (p0.fe.map Bh))), (96, iD ((p0.fe.length : Int))), (97, iD v23), (133, bD v33)] [(2, .box (Ae p0)), (3, .box (AA p1))]) (fun j33 h => ?_) (fun v33 h => ?_)
        ·refine Ah Ax rfl (qm rfl (qf Cx rfl (ql GU rfl (qm rfl ?_))))
         refine B3 h fun v34 a34 b34 h => qi Df FR a34 (Ag b34) rfl (qk Ks rfl (I7 rfl (Ci rfl (qm rfl ?_))))
         refine Eh 124 h rfl (fun h => ?_) fun h => ?_
         ·refine qw 8 rfl (qp rfl (Ac ?_))
          exact sn [] h
         ·refine qf Cx rfl (ql GU rfl (qm rfl ?_))
          refine B3 h fun v36 a36 b36 h => qi Df FR a36 (Ag b36) rfl (qk Ks rfl (qm rfl (I7 rfl (Ci rfl (qp rfl (Ac ?_))))))
          exact sn [] h
        ·refine Bb h (fun h => ?_) fun h => ?_
         ·refine wq rfl (qe rfl ?_)
          obtain rfl := sj h
          refine Af (sm [] [(4, iD 1)] [] rfl rfl) (As ?_)
          exact ⟨⟨[_], tm, rfl⟩, tv⟩
         ·refine Ak (Ah Ax rfl (A4 rfl (qm rfl (Ac ?_))))
          exact sn [] h
      ·refine AT ?_
       exact sn [] h
     ·refine Af hs (wq rfl (qe rfl ?_))
      obtain rfl := sj h
      refine Af (sm [] [(4, iD 0)] [] rfl rfl) (As ?_)
      exact ⟨⟨[_], tm, rfl⟩, tv⟩
theorem EM (N : Nat) (p0 : List Int) (r : (List Int)) (h : BD N p0 = some r) : Ar uS 67 [pD (.sl (p0.map CF))] [(1, r.map CF)] (oD (.own 0)) := by
 unfold BD at h
 refine cw (n := 8) (rs := [.tmp 2]) Tryz.func67 fun w0 S0 => ?_
 refine wq rfl (qa rfl (Ac (wp rfl (qm rfl ?_))))
 refine Qp (.p rfl) rfl Df ?_
 refine Ac ?_
 refine QJ rfl (fun c2 => ?_) ?_
 ·have c2 := zH1.1 c2
  rw [c2] at h
  have h : (some (([] : List Int))) = some r := h
  refine wq rfl (qe rfl ?_)
  obtain rfl := sj h
  refine Af ((Bf 2 2001 1 rfl rfl rfl).trans (sm [(1000, 2001)] [(2, oD (.own 1000))] [(1000, .vec 1 ((([] : List Int)).map CF))] rfl rfl)) (As ?_)
  exact ⟨⟨[_], tm, rfl⟩, ⟨rfl, tv⟩⟩
 ·refine Ak (wq rfl (DF Df FR M3 rfl (qm rfl ?_)))
  refine F4 h fun c1 h => I0 (f := CF) Df Df FR PY M3 (fun _ => rfl) c1 rfl (qe rfl ?_)
  obtain rfl := sj h
  refine Af (sm [(1000, 7)] [(2, oD (.own 1000))] [(1000, .vec 1 (((([] : List Int)) ++ p0).map CF))] rfl rfl) (As ?_)
  exact ⟨⟨[_], tm, rfl⟩, ⟨rfl, tv⟩⟩
theorem Qb (N : Nat) (p0 : Ab) (p1 : Aa) (r : (List Aa) × Int) (h : FP N p0 p1 = some r) : Ar uS 99 [.e (.agg (Ae p0)), .e (.agg (AA p1))] [(3, r.1.map Al)] (.tup [.one (.own 0), .one (iC r.2)]) := by
 unfold FP at h
 refine cw (n := 75) (rs := [.tmp 4, .tmp 5]) Tryz.func99 fun w0 S0 => ?_
 refine wq rfl (qb rfl (qb rfl (qa rfl (qa rfl (Ac (wp rfl (qL Db CM rfl (qL AZ Az rfl ?_))))))))
 refine BV h fun v1 a1 h => Aw [] (Il N p0 p1 v1 a1) Uu rfl (qa rfl (Ac (wq rfl (qm rfl (Ci rfl (Ac ?_))))))
 refine Bb h (fun h => ?_) fun h => ?_
 ·refine wq rfl (qm rfl (qa rfl (qe rfl ?_)))
  obtain rfl := sj h
  refine Af ((Bf 4 2001 3 rfl rfl rfl).trans (sm [(1000, 2001)] [(4, oD (.own 1000)), (5, iD v1)] [(1000, .vec 3 ((([] : List Aa)).map Al))] rfl rfl)) (As ?_)
  exact ⟨⟨[_, _], ⟨.tmp _ _ rfl, tm⟩, rfl⟩, ⟨rfl, tv⟩⟩
 ·refine Ak (wq rfl (qa rfl (Ac (wp rfl (qf Bo rfl (ql A7 rfl (AL Ay rfl (qm rfl (Ac ?_)))))))))
  refine AH (L := Ed N p1) h (fun v3 => mk [(3, oD (.ptr 3 0)), (7, oD (.own 2002)), (22, pD (.sl (p1.fa.map Ao))), (23, iD ((p1.fa.length : Int))), (24, iD v3.2)] [(3, .box (AA p1)), (2002, .vec 1 (v3.1.map Ao))]) (fun v4 => mk [(3, oD (.ptr 3 0)), (7, oD (.own 2003))] [(3, .box (AA p1)), (2003, .vec 1 (v4.map Ao))]) (fun _ _ => rfl) ((Bf 7 2005 1 rfl rfl rfl).trans (sm [(2002, 2005)] _ _ rfl rfl)) (fun j3 n3 v3 h => ?_) (fun v4 s h hs => ?_)
  ·unfold Ed at h
   refine wq rfl (AV rfl (Ac (AS ?_)))
   refine Bb h (fun h => ?_) fun h => ?_
   ·refine Ak ?_
    refine AR h (fun v6 => mk [(3, oD (.ptr 3 0)), (7, oD (.own 2004)), (22, pD (.sl (p1.fa.map Ao))), (23, iD ((p1.fa.length : Int))), (24, iD v3.2)] [(3, .box (AA p1)), (2004, .vec 1 (v6.map Ao))]) (fun j6 h => ?_) (fun v6 h => ?_)
    ·refine AO (wq rfl (qm rfl ?_))
     refine B3 h fun v7 a7 b7 h => qi Ay Do a7 (Ag b7) rfl (qk Cl rfl (qa rfl (qa rfl (Ac (wq rfl (qm rfl (Fb rfl (Ac ?_))))))))
     refine Bb h (fun h => ?_) fun h => ?_
     ·refine Ah Ax rfl (qw 2 rfl (DF Ay Do Kq rfl ?_))
      refine F4 h fun c9 h => Dp (f := Ao) Ay Ay Do LE Kq c9 rfl (qe rfl ?_)
      exact sn [(2004, 34)] h
     ·refine Ak ?_
      exact sn [(2004, 2002)] h
    ·refine Ah Ax rfl (A4 rfl (qm rfl (Ac ?_)))
     exact sn [(2002, 2004)] h
   ·refine AT ?_
    exact sn [(2003, 2002)] h
  ·refine Af hs (wq rfl (qa rfl (Ac (wp rfl (qm rfl (D1 Ay rfl ?_))))))
   refine F4 h fun c10 h => Jm rfl c10 (qm rfl (Ac ?_))
   refine AH (L := Dm N p1 v4) h (fun v11 => mk [(3, oD (.ptr 3 0)), (7, oD (.own 2006)), (10, oD (.own 2007)), (38, iD ((D7 .i64 1 ((v4.length : Int))))), (39, iD v11.2)] [(3, .box (AA p1)), (2006, .vec 1 (v4.map Ao)), (2007, .vec 3 (v11.1.map Al))]) (fun v12 => mk [(10, oD (.own 2008))] [(2008, .vec 3 (v12.map Al))]) (fun _ _ => rfl) ((Bf 10 2027 3 rfl rfl rfl).trans (sm [(2006, 2003), (2007, 2027)] _ _ rfl rfl)) (fun j11 n11 v11 h => ?_) (fun v12 s h hs => ?_)
   ·unfold Dm at h
    refine wq rfl (AV rfl (Ac (AS ?_)))
    refine Bb h (fun h => ?_) fun h => ?_
    ·refine Ak (AS (AO (wq rfl (qm rfl (qa rfl (Ac (wq rfl (qf Ct rfl (ql A7 rfl ?_)))))))))
     refine BV h fun v14 a14 h => Aw [2009] (C8 N p1.fd v14 a14) SK rfl (qf Bo rfl (ql A7 rfl ?_))
     refine BV h fun v15 a15 h => Aw [2010] (C8 N p1.fa v15 a15) SK rfl (qf Cx rfl (ql GU rfl ?_))
     refine BV h fun v16 a16 h => Aw [2011] (EM N p1.fc v16 a16) Ys rfl (Br B1 Hu rfl (qz B1 rfl (qs Az rfl (AM (by kernel_rfl) (wp rfl (qm rfl (D1 Ay rfl (qm rfl (Ac ?_)))))))))
     refine AH (L := Dk N v4 v11) h (fun v17 => mk [(3, oD (.ptr 3 0)), (7, oD (.own 2015)), (10, oD (.own 2016)), (11, iD v11.2), (12, oD (.ptr 12 0)), (38, iD ((D7 .i64 1 ((v4.length : Int))))), (39, iD v11.2), (52, oD (.own 2015)), (53, iD ((v4.length : Int))), (54, iD v17.2)] [(3, .box (AA p1)), (12, .box [.own 2012, .own 2013, .own 2014]), (2012, .vec 1 (v14.map Ao)), (2013, .vec 1 (v17.1.map Ao)), (2014, .vec 1 (v16.map CF)), (2015, .vec 1 (v4.map Ao)), (2016, .vec 3 (v11.1.map Al))]) (fun v18 => mk [(3, oD (.ptr 3 0)), (7, oD (.own 2020)), (10, oD (.own 2021)), (12, oD (.ptr 12 0)), (38, iD ((D7 .i64 1 ((v4.length : Int))))), (39, iD v11.2)] [(3, .box (AA p1)), (12, .box [.own 2017, .own 2018, .own 2019]), (2017, .vec 1 (v14.map Ao)), (2018, .vec 1 (v18.map Ao)), (2019, .vec 1 (v16.map CF)), (2020, .vec 1 (v4.map Ao)), (2021, .vec 3 (v11.1.map Al))]) (fun _ _ => rfl) (sm [(2012, 2009), (2013, 2010), (2014, 2011), (2015, 2006), (2016, 2007)] _ _ rfl rfl) (fun j17 n17 v17 h => ?_) (fun v18 s h hs => ?_)
     ·unfold Dk at h
      refine wq rfl (AV rfl (Ac (AS ?_)))
      refine Bb h (fun h => ?_) fun h => ?_
      ·refine Ak ?_
       refine AR h (fun v20 => mk [(3, oD (.ptr 3 0)), (7, oD (.own 2025)), (10, oD (.own 2026)), (11, iD v11.2), (12, oD (.ptr 12 0)), (38, iD ((D7 .i64 1 ((v4.length : Int))))), (39, iD v11.2), (52, oD (.own 2025)), (53, iD ((v4.length : Int))), (54, iD v17.2)] [(3, .box (AA p1)), (12, .box [.own 2022, .own 2023, .own 2024]), (2022, .vec 1 (v14.map Ao)), (2023, .vec 1 (v20.map Ao)), (2024, .vec 1 (v16.map CF)), (2025, .vec 1 (v4.map Ao)), (2026, .vec 3 (v11.1.map Al))]) (fun j20 h => ?_) (fun v20 h => ?_)
       ·refine AO (wq rfl (qm rfl ?_))
        refine B3 h fun v21 a21 b21 h => qI Ay Do a21 (Ag b21) rfl (qj Cl (Ag b21) rfl (qa rfl (qa rfl (Ac (wq rfl (qw 2 rfl ?_))))))
        refine F4 h fun c22 h => Jv rfl c22 (Mu rfl (BY rfl (Ac ?_)))
        refine Bb h (fun h => ?_) fun h => ?_
        ·refine Ah Ax rfl (qf Bo rfl (ql A7 rfl (qm rfl ?_)))
         refine B3 h fun v24 a24 b24 h => qI Ay Do a24 (Ag b24) rfl ?_
         refine Em rfl rfl rfl rfl (Ag b24) rfl Do rfl (IU rfl) (Ei Ao v17.1 _ ((-1))) ?_
         refine Ac ?_
         exact sn [(2022, 2012), (2023, 2013), (2024, 2014), (2025, 2015), (2026, 2016)] h
        ·refine Ak ?_
         exact sn [(2022, 2012), (2023, 2013), (2024, 2014), (2025, 2015), (2026, 2016)] h
       ·refine Ah Ax rfl (A4 rfl (qm rfl (Ac ?_)))
        exact sn [(2012, 2022), (2013, 2023), (2014, 2024), (2015, 2025), (2016, 2026)] h
      ·refine AT ?_
       exact sn [(2017, 2012), (2018, 2013), (2019, 2014), (2020, 2015), (2021, 2016)] h
     ·refine Af hs (Ah Ax rfl (qm rfl (qL AZ Az rfl (CX (AU 2017 _ _ rfl rfl) (CX (AU 2018 _ _ rfl rfl) (CX (AU 2019 _ _ rfl rfl) (DF A0 Az B1 rfl ?_)))))))
      refine F4 h fun c25 h => Dp (f := Al) A0 A0 Az Lp B1 c25 rfl (qa rfl (Ac (Ah Ax rfl (A4 rfl (qm rfl (Ac ?_))))))
      exact sn [(2006, 2020), (2007, 72)] h
    ·refine AT ?_
     exact sn [(2008, 2007)] h
   ·refine Af hs (wq rfl (qm rfl (qa rfl (qe rfl ?_))))
    obtain rfl := sj h
    refine Af (sm [(1000, 2008)] [(4, oD (.own 1000)), (5, iD 0)] [(1000, .vec 3 (v12.map Al))] rfl rfl) (As ?_)
    exact ⟨⟨[_, _], ⟨.tmp _ _ rfl, tm⟩, rfl⟩, ⟨rfl, tv⟩⟩
theorem ND (N : Nat) (p0 : Ab) (p1 : Aa) (r : (List Ad)) (h : F3 N p0 p1 = some r) : Ar uS 100 [.e (.agg (Ae p0)), .e (.agg (AA p1))] [(3, r.map Aq)] (oD (.own 0)) := by
 unfold F3 at h
 refine cw (n := 98) (rs := [.tmp 4]) Tryz.func100 fun w0 S0 => ?_
 refine wq rfl (qb rfl (qb rfl (qa rfl (Ac (wq rfl (qa rfl (Ac (wp rfl (qf CY rfl (ql Hz rfl (AL Ek rfl (qm rfl (Ac ?_)))))))))))))
 refine AH (L := DK N p0 p1) h (fun v1 => mk [(3, oD (.ptr 3 0)), (5, oD (.own 2001)), (15, pD (.sl (p0.fe.map Bh))), (16, iD ((p0.fe.length : Int))), (17, iD v1.2)] [(3, .box (AA p1)), (2001, .vec 3 (v1.1.map Aq))]) (fun v2 => mk [(5, oD (.own 2002))] [(2002, .vec 3 (v2.map Aq))]) (fun _ _ => rfl) ((Bf 5 2013 3 rfl rfl rfl).trans (sm [(2001, 2013)] _ _ rfl rfl)) (fun j1 n1 v1 h => ?_) (fun v2 s h hs => ?_)
 ·unfold DK at h
  refine wq rfl (AV rfl (Ac (AS ?_)))
  refine Bb h (fun h => ?_) fun h => ?_
  ·refine Ak (AS (AO (wq rfl (qm rfl ?_))))
   refine B3 h fun v4 a4 b4 h => qi Ek Ex a4 (Ag b4) rfl (qK HM Ex rfl (qz Lj rfl (qa rfl (qs Ex rfl (Ac (wq rfl (qL AZ Az rfl (qf Dl rfl (ql Cl rfl ?_)))))))))
   refine BV h fun v5 a5 h => Aw [] (JN N p1 v4.fg v5 a5) V1 rfl (qL AZ Az rfl (qf IQ rfl (ql Cl rfl ?_)))
   refine BV h fun v6 a6 h => Aw [] (JN N p1 v4.fk v6 a6) V1 rfl (qa rfl (qa rfl (AM (by kernel_rfl) ?_)))
   refine AR h (fun v7 => mk [(3, oD (.ptr 3 0)), (5, oD (.own 2003)), (6, iD v1.2), (7, oD (.ptr 7 0)), (8, pD (.val (.int .u8 v7))), (9, pD (.val (.int .u8 v6))), (15, pD (.sl (p0.fe.map Bh))), (16, iD ((p0.fe.length : Int))), (17, iD v1.2)] [(3, .box (AA p1)), (7, .box (Bs v4)), (2003, .vec 3 (v1.1.map Aq))]) (fun j7 h => ?_) (fun v7 h => ?_)
   ·refine wq rfl (qL HM Ex rfl ?_)
    refine BV h fun v8 a8 h => Aw [] (Ka N v4 v8 a8) X0 rfl (Ac ?_)
    refine Bb h (fun h => ?_) fun h => ?_
    ·refine Ah Ax rfl (qf Cx rfl (ql GU rfl (qm rfl ?_)))
     refine B3 h fun v10 a10 b10 h => qi Df FR a10 (Ag b10) rfl (qk Ks rfl (qe rfl ?_))
     exact sn [(2003, 2001)] h
    ·refine Ak ?_
     exact sn [(2003, 2001)] h
   ·refine wq rfl (qf Ko rfl (ql KQ rfl (AL GR rfl (qm rfl (Ac ?_)))))
    refine AH (L := CC N v1 v4 v6 v7) h (fun v11 => mk [(3, oD (.ptr 3 0)), (5, oD (.own 2004)), (6, iD v1.2), (7, oD (.ptr 7 0)), (8, pD (.val (.int .u8 v7))), (9, pD (.val (.int .u8 v6))), (15, pD (.sl (p0.fe.map Bh))), (16, iD ((p0.fe.length : Int))), (17, iD v1.2), (39, iD ((v4.fq.length : Int))), (40, iD v11.2)] [(3, .box (AA p1)), (7, .box (Bs v4)), (2004, .vec 3 (v11.1.map Aq))]) (fun v12 => mk [(3, oD (.ptr 3 0)), (5, oD (.own 2005)), (15, pD (.sl (p0.fe.map Bh))), (16, iD ((p0.fe.length : Int))), (17, iD v1.2)] [(3, .box (AA p1)), (2005, .vec 3 (v12.map Aq))]) (fun _ _ => rfl) (sm [(2004, 2003)] _ _ rfl rfl) (fun j11 n11 v11 h => ?_) (fun v12 s h hs => ?_)
    ·unfold CC at h
     refine wq rfl (AV rfl (Ac (AS ?_)))
     refine Bb h (fun h => ?_) fun h => ?_
     ·refine Ak ?_
      refine AR h (fun v14 => mk [(3, oD (.ptr 3 0)), (5, oD (.own 2006)), (6, iD v1.2), (7, oD (.ptr 7 0)), (8, pD (.val (.int .u8 v7))), (9, pD (.val (.int .u8 v6))), (15, pD (.sl (p0.fe.map Bh))), (16, iD ((p0.fe.length : Int))), (17, iD v1.2), (39, iD ((v4.fq.length : Int))), (40, iD v11.2)] [(3, .box (AA p1)), (7, .box (Bs v4)), (2006, .vec 3 (v14.map Aq))]) (fun j14 h => ?_) (fun v14 h => ?_)
      ·refine AO (wq rfl (qm rfl (qa rfl (Ac (wp rfl (qw 2 rfl ?_))))))
       refine F4 h fun c15 h => Jv rfl c15 (Mu rfl (BY rfl (Ac ?_)))
       refine Bb h (fun h => ?_) fun h => ?_
       ·refine AT ?_
        exact sn [(2006, 2004)] h
       ·refine Ak (wq rfl (qa rfl (Ac (wp rfl (qf Ko rfl (ql KQ rfl (qm rfl ?_)))))))
        refine B3 h fun v17 a17 b17 h => qi GR NE a17 (Ag b17) rfl (qk QS rfl (AL Ha rfl (qm rfl (Ac ?_))))
        refine AH (L := Ce N v1 v4 v6 v11 v17) h (fun v18 => mk [(3, oD (.ptr 3 0)), (5, oD (.own 2007)), (6, iD v1.2), (7, oD (.ptr 7 0)), (8, pD (.val (.int .u8 v7))), (9, pD (.val (.int .u8 v6))), (10, iD v11.2), (11, bD v18.2.1), (15, pD (.sl (p0.fe.map Bh))), (16, iD ((p0.fe.length : Int))), (17, iD v1.2), (39, iD ((v4.fq.length : Int))), (40, iD v11.2), (52, pD (.sl (v17.map eB))), (53, iD ((v17.length : Int))), (54, iD v18.2.2)] [(3, .box (AA p1)), (7, .box (Bs v4)), (2007, .vec 3 (v18.1.map Aq))]) (fun v19 => mk [(3, oD (.ptr 3 0)), (5, oD (.own 2008)), (6, iD v1.2), (7, oD (.ptr 7 0)), (8, pD (.val (.int .u8 v7))), (9, pD (.val (.int .u8 v6))), (10, iD v11.2), (11, bD v19.2), (15, pD (.sl (p0.fe.map Bh))), (16, iD ((p0.fe.length : Int))), (17, iD v1.2), (39, iD ((v4.fq.length : Int))), (40, iD v11.2)] [(3, .box (AA p1)), (7, .box (Bs v4)), (2008, .vec 3 (v19.1.map Aq))]) (fun _ _ => rfl) (sm [(2007, 2004)] _ _ rfl rfl) (fun j18 n18 v18 h => ?_) (fun v19 s h hs => ?_)
        ·unfold Ce at h
         refine wq rfl (AV rfl (Ac (AS ?_)))
         refine Bb h (fun h => ?_) fun h => ?_
         ·refine Ak ?_
          refine AR h (fun v21 => mk [(3, oD (.ptr 3 0)), (5, oD (.own 2009)), (6, iD v1.2), (7, oD (.ptr 7 0)), (8, pD (.val (.int .u8 v7))), (9, pD (.val (.int .u8 v6))), (10, iD v11.2), (11, bD v21.2), (15, pD (.sl (p0.fe.map Bh))), (16, iD ((p0.fe.length : Int))), (17, iD v1.2), (39, iD ((v4.fq.length : Int))), (40, iD v11.2), (52, pD (.sl (v17.map eB))), (53, iD ((v17.length : Int))), (54, iD v18.2.2)] [(3, .box (AA p1)), (7, .box (Bs v4)), (2009, .vec 3 (v21.1.map Aq))]) (fun j21 h => ?_) (fun v21 h => ?_)
          ·refine AO (wq rfl (qm rfl ?_))
           refine B3 h fun v22 a22 b22 h => qi Ha Rd a22 (Ag b22) rfl (qk Ti rfl (qa rfl (qa rfl (Ac (wp rfl (qw 2 rfl ?_))))))
           refine F4 h fun c23 h => Jv rfl c23 (Mu rfl (BY rfl (Ac ?_)))
           refine Bb h (fun h => ?_) fun h => ?_
           ·refine AT ?_
            exact sn [(2009, 2007)] h
           ·refine Ak ?_
            refine AR h (fun v25 => mk [(3, oD (.ptr 3 0)), (5, oD (.own 2010)), (6, iD v1.2), (7, oD (.ptr 7 0)), (8, pD (.val (.int .u8 v7))), (9, pD (.val (.int .u8 v6))), (10, iD v11.2), (11, bD v25), (12, iD v18.2.2), (13, bD v22), (15, pD (.sl (p0.fe.map Bh))), (16, iD ((p0.fe.length : Int))), (17, iD v1.2), (39, iD ((v4.fq.length : Int))), (40, iD v11.2), (52, pD (.sl (v17.map eB))), (53, iD ((v17.length : Int))), (54, iD v18.2.2)] [(3, .box (AA p1)), (7, .box (Bs v4)), (2010, .vec 3 (v18.1.map Aq))]) (fun j25 h => ?_) (fun v25 h => ?_)
            ·refine Ah Ax rfl (qw 2 rfl ?_)
             refine Eh 65 h rfl (fun h => ?_) fun h => ?_
             ·refine qn rfl (qp rfl (qe rfl ?_))
              exact sn [(2010, 2007)] h
             ·refine qm rfl (qp rfl (qe rfl ?_))
              exact sn [(2010, 2007)] h
            ·refine AR h (fun v27 => mk [(3, oD (.ptr 3 0)), (5, oD (.own 2011)), (6, iD v1.2), (7, oD (.ptr 7 0)), (8, pD (.val (.int .u8 v7))), (9, pD (.val (.int .u8 v6))), (10, iD v11.2), (11, bD v25), (12, iD v18.2.2), (15, pD (.sl (p0.fe.map Bh))), (16, iD ((p0.fe.length : Int))), (17, iD v1.2), (39, iD ((v4.fq.length : Int))), (40, iD v11.2), (52, pD (.sl (v17.map eB))), (53, iD ((v17.length : Int))), (54, iD v18.2.2), (74, bD v27)] [(3, .box (AA p1)), (7, .box (Bs v4)), (2011, .vec 3 (v18.1.map Aq))]) (fun j27 h => ?_) (fun v27 h => ?_)
             ·refine Ah Ax rfl (qm rfl (Cm rfl (qm rfl ?_)))
              refine Eh 70 h rfl (fun h => ?_) fun h => ?_
              ·refine qf JF rfl (ql Ti rfl (Cm rfl (qp rfl (Ac ?_))))
               exact sn [(2011, 2010)] h
              ·refine qw 3 rfl (qp rfl (Ac ?_))
               exact sn [(2011, 2010)] h
             ·refine Bb h (fun h => ?_) fun h => ?_
              ·refine Ah Ax rfl (qw 4 rfl (Br Jo SE rfl (DF EH Fi Jo rfl ?_)))
               refine F4 h fun c30 h => Dp (f := Aq) EH EH Fi Rj Jo c30 rfl (qe rfl ?_)
               exact sn [(2009, 81)] h
              ·refine Ak ?_
               exact sn [(2009, 2011)] h
          ·refine Ah Ax rfl (A4 rfl (qm rfl (Ac ?_)))
           exact sn [(2007, 2009)] h
         ·refine AT ?_
          exact sn [(2008, 2007)] h
        ·refine Af hs ?_
         refine AR h (fun v31 => mk [(3, oD (.ptr 3 0)), (5, oD (.own 2012)), (6, iD v1.2), (7, oD (.ptr 7 0)), (8, pD (.val (.int .u8 v7))), (9, pD (.val (.int .u8 v6))), (10, iD v11.2), (15, pD (.sl (p0.fe.map Bh))), (16, iD ((p0.fe.length : Int))), (17, iD v1.2), (39, iD ((v4.fq.length : Int))), (40, iD v11.2), (88, bD v31)] [(3, .box (AA p1)), (7, .box (Bs v4)), (2012, .vec 3 (v19.1.map Aq))]) (fun j31 h => ?_) (fun v31 h => ?_)
         ·refine Ah Ax rfl (qf JF rfl (ql Ti rfl (qm rfl ?_)))
          refine Eh 85 h rfl (fun h => ?_) fun h => ?_
          ·refine qm rfl (Cm rfl (qp rfl (Ac ?_)))
           exact sn [(2012, 2008)] h
          ·refine qw 2 rfl (qp rfl (Ac ?_))
           exact sn [(2012, 2008)] h
         ·refine Bb h (fun h => ?_) fun h => ?_
          ·refine Ah Ax rfl (qw 3 rfl (Br Jo SE rfl (DF EH Fi Jo rfl ?_)))
           refine F4 h fun c34 h => Dp (f := Aq) EH EH Fi Rj Jo c34 rfl (qe rfl ?_)
           exact sn [(2006, 94)] h
          ·refine Ak ?_
           exact sn [(2006, 2012)] h
      ·refine Ah Ax rfl (A4 rfl (qm rfl (Ac ?_)))
       exact sn [(2004, 2006)] h
     ·refine AT ?_
      exact sn [(2005, 2004)] h
    ·refine Af hs (Ah Ax rfl (A4 rfl (qm rfl (Ac ?_))))
     exact sn [(2001, 2005)] h
  ·refine AT ?_
   exact sn [(2002, 2001)] h
 ·refine Af hs (wq rfl (qm rfl (qe rfl ?_)))
  obtain rfl := sj h
  refine Af (sm [(1000, 2002)] [(4, oD (.own 1000))] [(1000, .vec 3 (v2.map Aq))] rfl rfl) (As ?_)
  exact ⟨⟨[_], tm, rfl⟩, ⟨rfl, tv⟩⟩
theorem Nl (N : Nat) (p0 : Ab) (p1 : Aa) (r : Aa × Ad × Int) (h : FC N p0 p1 = some r) : Ar uS 55 [.e (.agg (Ae p0)), .e (.agg (AA p1))] [] (.tup [.agg (AA r.1), .agg (IM r.2.1), .one (iC r.2.2)]) := by
 unfold FC at h
 refine cw (n := 42) (rs := [.cell 4 46, .cell 5 66, .tmp 6]) Tryz.func55 fun w0 S0 => ?_
 refine wq rfl (qb rfl (qb rfl (qz B1 rfl (qz Jo rfl (qa rfl (Ac (wq rfl (qL Db CM rfl (qL AZ Az rfl ?_)))))))))
 refine BV h fun v1 a1 h => Aw [2001] (Qb N p0 p1 v1 a1) bm rfl (qm rfl (qx rfl (qx rfl (qa rfl (qa rfl (Ac (wp rfl (qm rfl (Ci rfl (Ac ?_))))))))))
 refine Bb h (fun h => ?_) fun h => ?_
 ·refine wq rfl (Br B1 Hu rfl (Br Jo SE rfl (qm rfl (qs Az rfl (qs Fi rfl (qe rfl ?_))))))
  obtain rfl := sj h
  refine Af ((Pl 4 _ rfl).trans (sm [] [(4, oD (.ptr 4 0)), (5, oD (.ptr 5 0)), (6, iD v1.2)] [(4, .box [sC ((([] : List Int)).map Ao), sC ((([] : List Int)).map Ao), sC ((([] : List Int)).map CF)]), (5, .box [iC 0, iC 0, iC 0])] rfl rfl)) (As ?_)
  exact ⟨⟨[_, _, _], ⟨.cellN _ _ _ _ _ _ _ rfl rfl AZ Az rfl rfl (IX rfl), ⟨.cellN _ _ _ _ _ _ _ rfl rfl KP Fi rfl rfl (IX rfl), tm⟩⟩, rfl⟩, tv⟩
 ·refine Ak (wp rfl (qm rfl (D1 A0 rfl (qm rfl (Ac ?_)))))
  refine AH (L := E3 N p0 v1) h (fun v3 => mk [(2, oD (.ptr 2 0)), (4, oD (.ptr 4 0)), (5, oD (.ptr 5 0)), (23, oD (.own 2002)), (24, iD ((v1.1.length : Int))), (25, iD v3)] [(2, .box (Ae p0)), (4, .box [.pure (.nil0), .pure (.nil0), .pure (.nil0)]), (5, .box [iC 0, iC 0, iC 0]), (2002, .vec 3 (v1.1.map Al))]) (fun v4 => mk [(4, oD (.ptr 4 0)), (5, oD (.ptr 5 0))] [(4, .box [.pure (.nil0), .pure (.nil0), .pure (.nil0)]), (5, .box [iC 0, iC 0, iC 0])]) (fun _ _ => rfl) (sm [(2002, 2001)] _ _ rfl rfl) (fun j3 n3 v3 h => ?_) (fun v4 s h hs => ?_)
  ·unfold E3 at h
   refine wq rfl (AV rfl (Ac (AS ?_)))
   refine Bb h (fun h => ?_) fun h => ?_
   ·refine Ak (AS (AO (wq rfl ?_)))
    refine B3 h fun v6 a6 b6 h => qI A0 Az a6 (Ag b6) rfl (qJ AZ Az (Ag b6) rfl (qz B1 rfl (qs Az rfl (Ac (wq rfl (qL Db CM rfl (qL AZ Az rfl ?_)))))))
    refine BV h fun v7 a7 h => Aw [2003] (ND N p0 v6 v7 a7) ZW rfl (qa rfl (Ac (wq rfl (qm rfl (D1 EH rfl (FW rfl (Ac ?_)))))))
    refine Bb h (fun h => ?_) fun h => ?_
    ·refine wq rfl (qL AZ Az rfl (qm rfl ?_))
     refine B3 h fun v9 a9 b9 h => qI EH Fi a9 (Ag b9) rfl (qJ KP Fi (Ag b9) rfl (qs Az rfl (qs Fi rfl (qa rfl (AM (by kernel_rfl) ?_)))))
     obtain rfl := sj h
     refine Af (sm [] [(4, oD (.ptr 4 0)), (5, oD (.ptr 5 0)), (6, iD 0)] [(4, .box (AA v6)), (5, .box (IM v9))] rfl rfl) (As ?_)
     exact ⟨⟨[_, _, _], ⟨.cellN _ _ _ _ _ _ _ rfl rfl AZ Az rfl rfl (IX rfl), ⟨.cellN _ _ _ _ _ _ _ rfl rfl KP Fi rfl rfl (IX rfl), tm⟩⟩, rfl⟩, tv⟩
    ·refine Ak (Ah Ax rfl (A4 rfl (qm rfl (Ac ?_))))
     exact sn [] h
   ·refine AT ?_
    exact sn [] h
  ·refine Af hs (wq rfl (Br B1 Hu rfl (Br Jo SE rfl (qs Az rfl (qs Fi rfl (qe rfl ?_))))))
   obtain rfl := sj h
   refine Af ((Pl 4 _ rfl).trans (sm [] [(4, oD (.ptr 4 0)), (5, oD (.ptr 5 0)), (6, iD 15)] [(4, .box [sC ((([] : List Int)).map Ao), sC ((([] : List Int)).map Ao), sC ((([] : List Int)).map CF)]), (5, .box [iC 0, iC 0, iC 0])] rfl rfl)) (As ?_)
   exact ⟨⟨[_, _, _], ⟨.cellN _ _ _ _ _ _ _ rfl rfl AZ Az rfl rfl (IX rfl), ⟨.cellN _ _ _ _ _ _ _ rfl rfl KP Fi rfl rfl (IX rfl), tm⟩⟩, rfl⟩, tv⟩
theorem HZ (N : Nat) (p0 : Ab) (p1 : Aa) (r : Bool × Int) (h : DY N p0 p1 = some r) : Ar uS 45 [.e (.agg (Ae p0)), .e (.agg (AA p1))] [] (.tup [.one (.pure (.val (.bool r.1))), .one (iC r.2)]) := by
 unfold DY at h
 refine cw (n := 22) (rs := [.tmp 4, .tmp 5]) Tryz.func45 fun w0 S0 => ?_
 refine wq rfl (qb rfl (qb rfl (qa rfl (qa rfl (Ac (wq rfl (qL Db CM rfl (qL AZ Az rfl ?_))))))))
 refine BV h fun v1 a1 h => Aw [] (Nl N p0 p1 v1 a1) ZZ rfl (qm rfl (qx rfl (qx rfl (qx rfl (qz B1 rfl (qz Jo rfl (qs Az rfl (qs Fi rfl (qa rfl (Ac (wq rfl (qm rfl (Ac (AO (wq rfl (BY rfl (qe rfl ?_)))))))))))))))))
 refine Bb h (fun h => ?_) fun h => ?_
 ·refine wq rfl (qa rfl (qe rfl ?_))
  obtain rfl := sj h
  refine Af (sm [] [(4, bD false), (5, iD 0)] [] rfl rfl) (As ?_)
  exact ⟨⟨[_, _], ⟨.tmp _ _ rfl, tm⟩, rfl⟩, tv⟩
 ·refine wq rfl (BY rfl (qe rfl ?_))
  refine Bb h (fun h => ?_) fun h => ?_
  ·refine wq rfl (qa rfl (qe rfl ?_))
   obtain rfl := sj h
   refine Af (sm [] [(4, bD true), (5, iD 0)] [] rfl rfl) (As ?_)
   exact ⟨⟨[_, _], ⟨.tmp _ _ rfl, tm⟩, rfl⟩, tv⟩
  ·refine wq rfl (qm rfl (qa rfl (qe rfl ?_)))
   obtain rfl := sj h
   refine Af (sm [] [(4, bD false), (5, iD v1.2.2)] [] rfl rfl) (As ?_)
   exact ⟨⟨[_, _], ⟨.tmp _ _ rfl, tm⟩, rfl⟩, tv⟩
theorem O4 (N : Nat) (p0 : Ab) (r : Aa × Bool × Int) (h : I1 N p0 = some r) : Ar uS 83 [.e (.agg (Ae p0))] [(1, r.1.fd.map Ao), (1, r.1.fa.map Ao), (1, r.1.fc.map CF)] (.tup [.agg [.own 0, .own 1, .own 2], .one (.pure (.val (.bool r.2.1))), .one (iC r.2.2)]) := by
 unfold I1 at h
 refine cw (n := 26) (rs := [.cell 2 46, .tmp 3, .tmp 4]) Tryz.func83 fun w0 S0 => ?_
 refine wq rfl (qb rfl (qz B1 rfl (qa rfl (qa rfl (Ac (wq rfl (qL Db CM rfl ?_)))))))
 refine BV h fun v1 a1 h => Aw [2001, 2002, 2003] (Ns N p0 v1 a1) YN rfl (qm rfl (qx rfl (qx rfl (qz B1 rfl (qs Az rfl (qa rfl (Ac (wp rfl (qm rfl (Ci rfl (Ac ?_)))))))))))
 refine Bb h (fun h => ?_) fun h => ?_
 ·refine wq rfl (Br B1 Hu rfl (qm rfl (qs Az rfl (qa rfl (qe rfl ?_)))))
  obtain rfl := sj h
  refine Af ((Av 2 0 2004 1 _ rfl rfl rfl rfl).trans ((Av 2 1 2005 1 _ rfl rfl rfl rfl).trans ((Av 2 2 2006 1 _ rfl rfl rfl rfl).trans (sm [(1000, 2004), (1001, 2005), (1002, 2006)] [(2, oD (.ptr 2 0)), (3, bD false), (4, iD v1.2)] [(2, .box [.own 1000, .own 1001, .own 1002]), (1000, .vec 1 ((([] : List Int)).map Ao)), (1001, .vec 1 ((([] : List Int)).map Ao)), (1002, .vec 1 ((([] : List Int)).map CF))] rfl rfl)))) (As ?_)
  exact ⟨⟨[_, _, _], ⟨.cellN _ _ _ _ _ _ _ rfl rfl AZ Az rfl rfl (IX rfl), ⟨.tmp _ _ rfl, tm⟩⟩, rfl⟩, ⟨rfl, rfl, rfl, tv⟩⟩
 ·refine Ak (wq rfl (qL Db CM rfl (qL AZ Az rfl ?_)))
  refine BV h fun v3 a3 h => CP [] [2001, 2002, 2003] (HZ N p0 v1.1 v3 a3) U1 BA rfl (qm rfl (qx rfl (qx rfl (qa rfl (qa rfl (Ac (wq rfl (qL AZ Az rfl (qw 2 rfl (qs Az rfl (qa rfl (qe rfl ?_))))))))))))
  obtain rfl := sj h
  refine Af (sm [(1000, 2001), (1001, 2002), (1002, 2003)] [(2, oD (.ptr 2 0)), (3, bD v3.1), (4, iD v3.2)] [(2, .box [.own 1000, .own 1001, .own 1002]), (1000, .vec 1 (v1.1.fd.map Ao)), (1001, .vec 1 (v1.1.fa.map Ao)), (1002, .vec 1 (v1.1.fc.map CF))] rfl rfl) (As ?_)
  exact ⟨⟨[_, _, _], ⟨.cellN _ _ _ _ _ _ _ rfl rfl AZ Az rfl rfl (IX rfl), ⟨.tmp _ _ rfl, tm⟩⟩, rfl⟩, ⟨rfl, rfl, rfl, tv⟩⟩
theorem KC (N : Nat) (p0 : Aa) (r : ByteArray) (h : HY N p0 = some r) : Ar uS 84 [.e (.agg (AA p0))] [] (pD (.val (.string r))) := by
 unfold HY at h
 refine cw (n := 44) (rs := [.tmp 2]) Tryz.func84 fun w0 S0 => ?_
 refine wq rfl (qb rfl (qa rfl (Ac (wq rfl (qa rfl (Ac (wp rfl (qf Ct rfl (ql A7 rfl (AL Ay rfl (qm rfl (Ac ?_))))))))))))
 refine AH (L := Hn N p0) h (fun v1 => mk [(1, oD (.ptr 1 0)), (3, oD (.own 2001)), (9, iD ((p0.fd.length : Int))), (10, iD v1.2)] [(1, .box (AA p0)), (2001, .vec 1 (v1.1.map CF))]) (fun v2 => mk [(1, oD (.ptr 1 0)), (3, oD (.own 2002))] [(1, .box (AA p0)), (2002, .vec 1 (v2.map CF))]) (fun _ _ => rfl) ((Bf 3 2003 1 rfl rfl rfl).trans (sm [(2001, 2003)] _ _ rfl rfl)) (fun j1 n1 v1 h => ?_) (fun v2 s h hs => ?_)
 ·unfold Hn at h
  refine wq rfl (AV rfl (Ac (AS ?_)))
  refine Bb h (fun h => ?_) fun h => ?_
  ·refine Ak (AS (AO (wq rfl (qm rfl (qa rfl (Ac (Ah Ax rfl (qm rfl (qf Ct rfl (ql A7 rfl (qm rfl ?_)))))))))))
   refine B3 h fun v4 a4 b4 h => qi Ay Do a4 (Ag b4) rfl (qk Cl rfl (Iw YF bE rfl (qf Bo rfl (ql A7 rfl (qm rfl ?_)))))
   refine B3 h fun v5 a5 b5 h => qi Ay Do a5 (Ag b5) rfl (qk Cl rfl (A4 rfl (Iw YF bE rfl (DF JW XT Z9 rfl ?_))))
   refine F4 h fun c6 h => Dp (f := CF) JW JW XT Zu Z9 c6 rfl (qa rfl (AM (by kernel_rfl) (Ah Ax rfl (A4 rfl (qm rfl (Ac ?_))))))
   exact sn [(2001, 28)] h
  ·refine AT ?_
   exact sn [(2002, 2001)] h
 ·refine Af hs (wp rfl (qf Cx rfl (ql GU rfl (AL Df rfl (qm rfl (Ac ?_))))))
  refine AH (L := Hq N p0) h (fun v7 => mk [(3, oD (.own 2004)), (31, pD (.sl (p0.fc.map CF))), (32, iD ((p0.fc.length : Int))), (33, iD v7.2)] [(2004, .vec 1 (v7.1.map CF))]) (fun v8 => mk [(3, oD (.own 2005))] [(2005, .vec 1 (v8.map CF))]) (fun _ _ => rfl) (sm [(2004, 2002)] _ _ rfl rfl) (fun j7 n7 v7 h => ?_) (fun v8 s h hs => ?_)
  ·unfold Hq at h
   refine wq rfl (AV rfl (Ac (AS ?_)))
   refine Bb h (fun h => ?_) fun h => ?_
   ·refine Ak (AS (AO (wq rfl ?_)))
    refine B3 h fun v10 a10 b10 h => qi Df FR a10 (Ag b10) rfl (qk Ks rfl (qa rfl (Ac (Ah Ax rfl (qw 2 rfl (DF JW XT Z9 rfl ?_))))))
    refine F4 h fun c11 h => Dp (f := CF) JW JW XT Zu Z9 c11 rfl (qa rfl (Ac (Ah Ax rfl (A4 rfl (qm rfl (Ac ?_))))))
    exact sn [(2004, 40)] h
   ·refine AT ?_
    exact sn [(2005, 2004)] h
  ·refine Af hs (wq rfl (qm rfl ?_))
   refine UV v8 (.p rfl) rfl (UK CF _ _ _) ⟨rfl, tv⟩ rfl ZF Zw ?_
   refine qa rfl (Ac ?_)
   obtain rfl := sj h
   refine Af (sm [] [(2, pD (.val (.string ((Jy v8)))))] [] rfl rfl) (As ?_)
   exact ⟨⟨[_], tm, rfl⟩, tv⟩
theorem SI (N : Nat) (p0 : Ab) (r : (List Aj)) (h : Ip N p0 = some r) : Ar uS 95 [.e (.agg (Ae p0))] [(3, r.map AP)] (oD (.own 0)) := by
 unfold Ip at h
 refine cw (n := 54) (rs := [.tmp 2]) Tryz.func95 fun w0 S0 => ?_
 refine wq rfl (qb rfl (qa rfl (Ac (wq rfl (qa rfl (Ac (wp rfl (qf Bt rfl (ql A7 rfl (AL Ay rfl (qm rfl (Ac ?_))))))))))))
 refine AH (L := DA N p0) h (fun v1 => mk [(1, oD (.ptr 1 0)), (3, oD (.own 2001)), (10, pD (.sl (p0.fb.map Ao))), (11, iD ((p0.fb.length : Int))), (12, iD v1.2)] [(1, .box (Ae p0)), (2001, .vec 3 (v1.1.map AP))]) (fun v2 => mk [(1, oD (.ptr 1 0)), (3, oD (.own 2002))] [(1, .box (Ae p0)), (2002, .vec 3 (v2.map AP))]) (fun _ _ => rfl) ((Bf 3 2005 3 rfl rfl rfl).trans (sm [(2001, 2005)] _ _ rfl rfl)) (fun j1 n1 v1 h => ?_) (fun v2 s h hs => ?_)
 ·unfold DA at h
  refine wq rfl (AV rfl (Ac (AS ?_)))
  refine Bb h (fun h => ?_) fun h => ?_
  ·refine Ak (AS (AO (wq rfl (qm rfl ?_))))
   refine B3 h fun v4 a4 b4 h => qi Ay Do a4 (Ag b4) rfl (qk Cl rfl (qa rfl (qa rfl (Ac (wq rfl (qw 2 rfl (Ac ?_)))))))
   refine AH (L := ER N v1 v4) h (fun v5 => mk [(1, oD (.ptr 1 0)), (3, oD (.own 2003)), (4, iD v1.2), (10, pD (.sl (p0.fb.map Ao))), (11, iD ((p0.fb.length : Int))), (12, iD v1.2), (17, iD v4), (18, iD v5.2)] [(1, .box (Ae p0)), (2003, .vec 3 (v5.1.map AP))]) (fun v6 => mk [(1, oD (.ptr 1 0)), (3, oD (.own 2004)), (10, pD (.sl (p0.fb.map Ao))), (11, iD ((p0.fb.length : Int))), (12, iD v1.2)] [(1, .box (Ae p0)), (2004, .vec 3 (v6.map AP))]) (fun _ _ => rfl) (sm [(2003, 2001)] _ _ rfl rfl) (fun j5 n5 v5 h => ?_) (fun v6 s h hs => ?_)
   ·unfold ER at h
    refine wq rfl (AV rfl (Ac (AS ?_)))
    refine Bb h (fun h => ?_) fun h => ?_
    ·refine Ak (AS (AO (wq rfl (qm rfl (qa rfl (Ac (Ah Ax rfl (qw 3 rfl (Br JQ VX rfl (DF E8 E2 JQ rfl ?_))))))))))
     refine F4 h fun c8 h => Dp (f := AP) E8 E8 E2 Rh JQ c8 rfl (qa rfl (Ac (Ah Ax rfl (A4 rfl (qm rfl (Ac ?_))))))
     exact sn [(2003, 26)] h
    ·refine AT ?_
     exact sn [(2004, 2003)] h
   ·refine Af hs (Ah Ax rfl (A4 rfl (qm rfl (Ac ?_))))
    exact sn [(2001, 2004)] h
  ·refine AT ?_
   exact sn [(2002, 2001)] h
 ·refine Af hs (wp rfl (qf Bt rfl (ql A7 rfl (AL Ay rfl (qm rfl (Ac ?_))))))
  refine AH (L := CB N p0) h (fun v9 => mk [(1, oD (.ptr 1 0)), (3, oD (.own 2006)), (31, iD ((p0.fb.length : Int))), (32, iD v9.2)] [(1, .box (Ae p0)), (2006, .vec 3 (v9.1.map AP))]) (fun v10 => mk [(1, oD (.ptr 1 0)), (3, oD (.own 2007))] [(1, .box (Ae p0)), (2007, .vec 3 (v10.map AP))]) (fun _ _ => rfl) (sm [(2006, 2002)] _ _ rfl rfl) (fun j9 n9 v9 h => ?_) (fun v10 s h hs => ?_)
  ·unfold CB at h
   refine wq rfl (AV rfl (Ac (AS ?_)))
   refine Bb h (fun h => ?_) fun h => ?_
   ·refine Ak (AS (AO (wq rfl (qm rfl (qa rfl (Ac (Ah Ax rfl (qw 2 rfl (Br JQ VX rfl (DF E8 E2 JQ rfl ?_))))))))))
    refine F4 h fun c12 h => Dp (f := AP) E8 E8 E2 Rh JQ c12 rfl (qa rfl (Ac (Ah Ax rfl (A4 rfl (qm rfl (Ac ?_))))))
    exact sn [(2006, 39)] h
   ·refine AT ?_
    exact sn [(2007, 2006)] h
  ·refine Af hs (wp rfl (qf CY rfl (ql Hz rfl (AL Ek rfl (qm rfl (Ac ?_))))))
   refine AH (L := BC N p0) h (fun v13 => mk [(3, oD (.own 2008)), (43, iD ((p0.fe.length : Int))), (44, iD v13.2)] [(2008, .vec 3 (v13.1.map AP))]) (fun v14 => mk [(3, oD (.own 2009))] [(2009, .vec 3 (v14.map AP))]) (fun _ _ => rfl) (sm [(2008, 2007)] _ _ rfl rfl) (fun j13 n13 v13 h => ?_) (fun v14 s h hs => ?_)
   ·unfold BC at h
    refine wq rfl (AV rfl (Ac (AS ?_)))
    refine Bb h (fun h => ?_) fun h => ?_
    ·refine Ak (AS (AO (wq rfl (qm rfl (qa rfl (Ac (Ah Ax rfl (qw 2 rfl (Br JQ VX rfl (DF E8 E2 JQ rfl ?_))))))))))
     refine F4 h fun c16 h => Dp (f := AP) E8 E8 E2 Rh JQ c16 rfl (qa rfl (Ac (Ah Ax rfl (A4 rfl (qm rfl (Ac ?_))))))
     exact sn [(2008, 51)] h
    ·refine AT ?_
     exact sn [(2009, 2008)] h
   ·refine Af hs (wq rfl (qm rfl (qe rfl ?_)))
    obtain rfl := sj h
    refine Af (sm [(1000, 2009)] [(2, oD (.own 1000))] [(1000, .vec 3 (v14.map AP))] rfl rfl) (As ?_)
    exact ⟨⟨[_], tm, rfl⟩, ⟨rfl, tv⟩⟩
theorem Pf (N : Nat) (p0 : Aa) (r : Aa) (h : GF N p0 = some r) : Ar uS 123 [.e (.agg (AA p0))] [(1, r.fd.map Ao), (1, r.fa.map Ao), (1, r.fc.map CF)] (.e (.agg [.own 0, .own 1, .own 2])) := by
 unfold GF at h
 refine cw (n := 13) (rs := [.cell 2 46]) Tryz.func123 fun w0 S0 => ?_
 refine wq rfl (qb rfl (qz B1 rfl (Ac (wq rfl (qf Ct rfl (ql A7 rfl ?_))))))
 refine BV h fun v1 a1 h => Aw [2001] (C8 N p0.fd v1 a1) SK rfl (qf Bo rfl (ql A7 rfl ?_))
 refine BV h fun v2 a2 h => Aw [2002] (C8 N p0.fa v2 a2) SK rfl (qf Cx rfl (ql GU rfl ?_))
 refine BV h fun v3 a3 h => Aw [2003] (EM N p0.fc v3 a3) Ys rfl (Br B1 Hu rfl (qs Az rfl (AM (by kernel_rfl) ?_)))
 obtain rfl := sj h
 refine Af (sm [(1000, 2001), (1001, 2002), (1002, 2003)] [(2, oD (.ptr 2 0))] [(2, .box [.own 1000, .own 1001, .own 1002]), (1000, .vec 1 (v1.map Ao)), (1001, .vec 1 (v2.map Ao)), (1002, .vec 1 (v3.map CF))] rfl rfl) (As ?_)
 exact ⟨⟨[_], ⟨.cellN _ _ _ _ _ _ _ rfl rfl AZ Az rfl rfl (IX rfl), tv⟩, rfl⟩, ⟨rfl, rfl, rfl, tv⟩⟩
theorem Lx (N : Nat) (p0 : AC) (r : Bool) (h : FV N p0 = some r) : Ar uS 156 [.e (.agg (Bs p0))] [] (bD r) := by
 unfold FV at h
 refine cw (n := 11) (rs := [.tmp 2]) Tryz.func156 fun w0 S0 => ?_
 refine wq rfl (qb rfl (qe rfl ?_))
 refine AR h (fun v1 => mk [(2, bD v1)] []) (fun j1 h => ?_) (fun v1 h => ?_)
 ·refine Ah Ax rfl (qf Gw rfl (ql Cl rfl (BY rfl (qm rfl ?_))))
  refine Eh 6 h rfl (fun h => ?_) fun h => ?_
  ·refine qw 3 rfl (qp rfl (qe rfl ?_))
   exact sn [] h
  ·refine qf Gw rfl (ql Cl rfl (BY rfl (qp rfl (qe rfl ?_))))
   exact sn [] h
 ·obtain rfl := sj h
  refine Af (sm [] [(2, bD v1)] [] rfl rfl) (As ?_)
  exact ⟨⟨[_], tm, rfl⟩, tv⟩
theorem Qw (N : Nat) (p0 : Ab) (p1 : Aa) (p2 : Aj) (r : Bool × (List Int) × (List Int)) (h : Ih N p0 p1 p2 = some r) : DS uS 124 [.e (.agg (Ae p0)), oD (.ptr 90000 0), .e (.agg (DI p2))] [(.box [.own 90001, .own 90002, .own 90003], .box [.own 90001, .own 90002, .own 90003]), (.vec 1 (p1.fd.map Ao), .vec 1 (p1.fd.map Ao)), (.vec 1 (p1.fa.map Ao), .vec 1 (r.2.1.map Ao)), (.vec 1 (p1.fc.map CF), .vec 1 (r.2.2.map CF))] [] (bD r.1) := by
 unfold Ih at h
 refine FZ (n := 70) (rs := [.tmp 6]) Tryz.func124 rfl rfl rfl (IU rfl) (IU rfl) rfl rfl (IU rfl) rfl (IU rfl) fun w0 S0 GL => ?_
 refine Af (sm [] [(0, .e (.agg (Ae p0))), (1, oD (.ptr 90000 0)), (2, .e (.agg (DI p2)))] [(90000, .box [.own 90001, .own 90002, .own 90003]), (90001, .vec 1 (p1.fd.map Ao)), (90002, .vec 1 (p1.fa.map Ao)), (90003, .vec 1 (p1.fc.map CF))] rfl rfl) (wq rfl (qb rfl (qb rfl (qa rfl (Ac (AS ?_))))))
 refine AR h (fun v1 => mk [(1, oD (.ptr 90000 0)), (3, oD (.ptr 3 0)), (5, oD (.ptr 5 0)), (30, bD v1)] [(3, .box (Ae p0)), (5, .box (DI p2)), (90000, .box [.own 90001, .own 90002, .own 90003]), (90001, .vec 1 (p1.fd.map Ao)), (90002, .vec 1 (p1.fa.map Ao)), (90003, .vec 1 (p1.fc.map CF))]) (fun j1 h => ?_) (fun v1 h => ?_)
 ·refine Ah Ax rfl (qm rfl (W4 rfl (qf Bo rfl (ql A7 rfl (qf Fn rfl (ql Cl rfl ?_))))))
  refine B3 h fun v2 a2 b2 h => qI Ay Do a2 (Ag b2) rfl (qj Cl (Ag b2) rfl (Fb rfl (qm rfl ?_)))
  refine Eh 18 h rfl (fun h => ?_) fun h => ?_
  ·refine qw 11 rfl (qp rfl (AM (by kernel_rfl) ?_))
   exact sn [] h
  ·refine qm rfl (W4 rfl (qf Ct rfl (ql A7 rfl (qf Fn rfl (ql Cl rfl ?_)))))
   refine B3 h fun v4 a4 b4 h => qI Ay Do a4 (Ag b4) rfl (qj Cl (Ag b4) rfl (qf Hk rfl (ql Cl rfl (BY rfl (qp rfl (AM (by kernel_rfl) ?_))))))
   exact sn [] h
 ·refine Bb h (fun h => ?_) fun h => ?_
  ·refine wq rfl (qe rfl ?_)
   obtain rfl := sj h
   refine Af (sm [] [(6, bD false)] [(90000, .box [.own 90001, .own 90002, .own 90003]), (90001, .vec 1 (p1.fd.map Ao)), (90002, .vec 1 (p1.fa.map Ao)), (90003, .vec 1 (p1.fc.map CF))] rfl rfl) (As ?_)
   exact ⟨⟨[_], tm, rfl⟩, ⟨rfl, rfl, rfl, rfl, tv⟩, tv⟩
  ·refine Ak (wq rfl (qm rfl (W4 rfl (qf Bo rfl (ql A7 rfl (qf Fn rfl (ql Cl rfl (qf Hk rfl (ql Cl rfl ?_)))))))))
   refine B3 h fun v6 a6 b6 h => qI Ay Do a6 (Ag b6) rfl ?_
   refine Em rfl rfl rfl rfl (Ag b6) rfl Do rfl (IU rfl) (Ei Ao p1.fa _ p2.fm) ?_
   refine AM (by kernel_rfl) (wp rfl (qf CY rfl (ql Hz rfl (AL Ek rfl (qm rfl (Ac ?_))))))
   refine AH (L := D8 N p0 p2) h (fun v7 => mk [(1, oD (.ptr 90000 0)), (5, oD (.ptr 5 0)), (41, pD (.sl (p0.fe.map Bh))), (42, iD ((p0.fe.length : Int))), (43, iD v7.2)] [(5, .box (DI p2)), (90000, .box [.own 90001, .own 90002, .own 90003]), (90001, .vec 1 (p1.fd.map Ao)), (90002, .vec 1 ((p1.fa.set ((p2.fh).toNat) p2.fm).map Ao)), (90003, .vec 1 (v7.1.map CF))]) (fun v8 => mk [] [(90000, .box [.own 90001, .own 90002, .own 90003]), (90001, .vec 1 (p1.fd.map Ao)), (90002, .vec 1 ((p1.fa.set ((p2.fh).toNat) p2.fm).map Ao)), (90003, .vec 1 (v8.map CF))]) (fun _ _ => rfl) (sm [] _ _ rfl rfl) (fun j7 n7 v7 h => ?_) (fun v8 s h hs => ?_)
   ·unfold D8 at h
    refine wq rfl (AV rfl (Ac (AS ?_)))
    refine Bb h (fun h => ?_) fun h => ?_
    ·refine Ak ?_
     refine AR h (fun v10 => mk [(1, oD (.ptr 90000 0)), (5, oD (.ptr 5 0)), (41, pD (.sl (p0.fe.map Bh))), (42, iD ((p0.fe.length : Int))), (43, iD v7.2)] [(5, .box (DI p2)), (90000, .box [.own 90001, .own 90002, .own 90003]), (90001, .vec 1 (p1.fd.map Ao)), (90002, .vec 1 ((p1.fa.set ((p2.fh).toNat) p2.fm).map Ao)), (90003, .vec 1 (v10.map CF))]) (fun j10 h => ?_) (fun v10 h => ?_)
     ·refine AO (wq rfl (qm rfl ?_))
      refine B3 h fun v11 a11 b11 h => qi Ek Ex a11 (Ag b11) rfl (qK HM Ex rfl (qz Lj rfl (qa rfl (qs Ex rfl (Ac ?_)))))
      refine AR h (fun v12 => mk [(1, oD (.ptr 90000 0)), (5, oD (.ptr 5 0)), (7, iD v7.2), (41, pD (.sl (p0.fe.map Bh))), (42, iD ((p0.fe.length : Int))), (43, iD v7.2), (56, bD v12)] [(5, .box (DI p2)), (90000, .box [.own 90001, .own 90002, .own 90003]), (90001, .vec 1 (p1.fd.map Ao)), (90002, .vec 1 ((p1.fa.set ((p2.fh).toNat) p2.fm).map Ao)), (90003, .vec 1 (v7.1.map CF))]) (fun j12 h => ?_) (fun v12 h => ?_)
      ·refine Ah Ax rfl (qf Dl rfl (ql Cl rfl (qf Fn rfl (ql Cl rfl (BY rfl (qm rfl ?_))))))
       refine Eh 53 h rfl (fun h => ?_) fun h => ?_
       ·refine qL HM Ex rfl ?_
        refine BV h fun v14 a14 h => Aw [] (Lx N v11 v14 a14) XJ rfl (qp rfl (Ac ?_))
        exact sn [] h
       ·refine qw 2 rfl (qp rfl (Ac ?_))
        exact sn [] h
      ·refine Bb h (fun h => ?_) fun h => ?_
       ·refine Ah Ax rfl (qm rfl (W4 rfl (qf Cx rfl (ql GU rfl (qm rfl ?_)))))
        refine B3 h fun v16 a16 b16 h => qI Df FR a16 (Ag b16) rfl (qj Ks (Ag b16) rfl (qf Hk rfl (ql Cl rfl ?_)))
        refine F4 h fun c17 h => Jm rfl c17 (TN rfl ?_)
        refine B3 h fun v18 a18 b18 h => qI Df FR a18 (Ag b18) rfl ?_
        refine Em rfl rfl rfl rfl (Ag b18) rfl FR rfl (IU rfl) (Ei CF v7.1 _ ((MG .u8 v16 ((D7 .u8 1 p2.fm))))) ?_
        refine AM (by kernel_rfl) ?_
        exact sn [] h
       ·refine Ak ?_
        exact sn [] h
     ·refine Ah Ax rfl (A4 rfl (qm rfl (Ac ?_)))
      exact sn [] h
    ·refine AT ?_
     exact sn [] h
   ·refine Af hs (wq rfl (qe rfl ?_))
    obtain rfl := sj h
    refine Af (sm [] [(6, bD true)] [(90000, .box [.own 90001, .own 90002, .own 90003]), (90001, .vec 1 (p1.fd.map Ao)), (90002, .vec 1 ((p1.fa.set ((p2.fh).toNat) p2.fm).map Ao)), (90003, .vec 1 (v8.map CF))] rfl rfl) (As ?_)
    exact ⟨⟨[_], tm, rfl⟩, ⟨rfl, rfl, rfl, rfl, tv⟩, tv⟩
theorem Oa (N : Nat) (p0 : Aa) (p1 : Int) (r : Int) (h : Gl N p0 p1 = some r) : Ar uS 157 [.e (.agg (AA p0)), iD p1] [] (pD (.val (.int .u8 r))) := by
 unfold Gl at h
 refine cw (n := 27) (rs := [.tmp 4]) Tryz.func157 fun w0 S0 => ?_
 refine wq rfl (qb rfl (qa rfl (Ac (wq rfl (qf Ct rfl (ql A7 rfl (qm rfl ?_)))))))
 refine B3 h fun v1 a1 b1 h => qi Ay Do a1 (Ag b1) rfl (qk Cl rfl ?_)
 refine F4 h fun c2 h => Jm rfl c2 (qe rfl ?_)
 refine AR h (fun v3 => mk [(5, pD (.val (.int .u8 v3)))] []) (fun j3 h => ?_) (fun v3 h => ?_)
 ·refine wq rfl (qf Bo rfl (ql A7 rfl (qm rfl ?_)))
  refine B3 h fun v4 a4 b4 h => qi Ay Do a4 (Ag b4) rfl (qk Cl rfl (Fb rfl (Ac ?_)))
  refine Bb h (fun h => ?_) fun h => ?_
  ·refine Ah Ax rfl (qm rfl (qf Bo rfl (ql A7 rfl (qm rfl ?_))))
   refine B3 h fun v6 a6 b6 h => qi Ay Do a6 (Ag b6) rfl (qk Cl rfl ?_)
   refine F4 h fun c7 h => Jm rfl c7 (TN rfl (qe rfl ?_))
   exact sn [] h
  ·refine Ak ?_
   exact sn [] h
 ·refine wq rfl (qm rfl (qe rfl ?_))
  obtain rfl := sj h
  refine Af (sm [] [(4, pD (.val (.int .u8 v3)))] [] rfl rfl) (As ?_)
  exact ⟨⟨[_], tm, rfl⟩, tv⟩
theorem Jp (N : Nat) (p0 : Int) (r : Int) (h : Dj N p0 = some r) : Ar uS 169 [pD (.val (.int .u8 p0))] [] (iD r) := by
 unfold Dj at h
 refine cw (n := 6) (rs := [.tmp 2]) Tryz.func169 fun w0 S0 => ?_
 refine wq rfl (qa rfl (Ac (wq rfl (qm rfl ?_))))
 refine BV h fun v1 a1 h => T8 (.p rfl) rfl rfl Zw a1 ?_
 refine Iw XC Vs rfl (qe rfl ?_)
 obtain rfl := sj h
 refine Af (sm [] [(2, iD ((wI .i64 v1)))] [] rfl rfl) (As ?_)
 exact ⟨⟨[_], tm, rfl⟩, tv⟩
theorem MC (N : Nat) (p0 : AC) (p1 : Int) (p2 : Int) (r : Bool) (h : Ga N p0 p1 p2 = some r) : Ar uS 158 [.e (.agg (Bs p0)), pD (.val (.int .u8 p1)), iD p2] [] (bD r) := by
 unfold Ga at h
 refine cw (n := 25) (rs := [.tmp 6]) Tryz.func158 fun w0 S0 => ?_
 refine wq rfl (qb rfl (qa rfl (Ac (wp rfl (qm rfl (qe rfl ?_))))))
 refine AH (L := DR N p0 p2) h (fun v1 => mk [(2, iD p2), (3, oD (.ptr 3 0)), (7, pD (.val (.int .u8 v1)))] [(3, .box (Bs p0))]) (fun v2 => mk [] []) (fun _ _ => rfl) (sm [] _ _ rfl rfl) (fun j1 n1 v1 h => ?_) (fun v2 s h hs => ?_)
 ·unfold DR at h
  refine wp rfl (qm rfl (Ci rfl (Ac ?_)))
  refine Bb h (fun h => ?_) fun h => ?_
  ·refine Ak (AS (AO (wq rfl (qf Hm rfl (ql KQ rfl (qm rfl ?_))))))
   refine BV h fun v4 a4 h => Aw [] (Jp N v1 v4 a4) Zr rfl ?_
   refine B3 h fun v5 a5 b5 h => qi GR NE a5 (Ag b5) rfl (qk QS rfl (qm rfl ?_))
   refine B3 h fun v6 a6 b6 h => qi Ha Rd a6 (Ag b6) rfl (qk Ti rfl (Cm rfl (AM (by kernel_rfl) ?_)))
   refine Bb h (fun h => ?_) fun h => ?_
   ·refine wq rfl (qe rfl ?_)
    obtain rfl := sj h
    refine Af (sm [] [(6, bD false)] [] rfl rfl) (As ?_)
    exact ⟨⟨[_], tm, rfl⟩, tv⟩
   ·refine Ak (Ah Ax rfl (qw 2 rfl (Lr rfl (Mu rfl (qe rfl ?_)))))
    exact sn [] h
  ·refine AT ?_
   exact sn [] h
 ·refine Af hs (wq rfl (qe rfl ?_))
  obtain rfl := sj h
  refine Af (sm [] [(6, bD true)] [] rfl rfl) (As ?_)
  exact ⟨⟨[_], tm, rfl⟩, tv⟩
theorem QC (N : Nat) (p0 : Ab) (p1 : Aa) (p2 : Int) (r : Bool × (List Int)) (h : Hi N p0 p1 p2 = some r) : DS uS 125 [.e (.agg (Ae p0)), oD (.ptr 90000 0), iD p2] [(.box [.own 90001, .own 90002, .own 90003], .box [.own 90001, .own 90002, .own 90003]), (.vec 1 (p1.fd.map Ao), .vec 1 (p1.fd.map Ao)), (.vec 1 (p1.fa.map Ao), .vec 1 (p1.fa.map Ao)), (.vec 1 (p1.fc.map CF), .vec 1 (r.2.map CF))] [] (bD r.1) := by
 unfold Hi at h
 refine FZ (n := 68) (rs := [.tmp 6]) Tryz.func125 rfl rfl rfl (IU rfl) (IU rfl) rfl rfl (IU rfl) rfl (IU rfl) fun w0 S0 GL => ?_
 refine Af (sm [] [(0, .e (.agg (Ae p0))), (1, oD (.ptr 90000 0)), (2, iD p2)] [(90000, .box [.own 90001, .own 90002, .own 90003]), (90001, .vec 1 (p1.fd.map Ao)), (90002, .vec 1 (p1.fa.map Ao)), (90003, .vec 1 (p1.fc.map CF))] rfl rfl) (wq rfl (qb rfl (qa rfl (Ac (wq rfl (qf CY rfl (ql Hz rfl (qm rfl ?_))))))))
 refine B3 h fun v1 a1 b1 h => qi Ek Ex a1 (Ag b1) rfl (qK HM Ex rfl (qz Lj rfl (qs Ex rfl (Ac (wp rfl (qL HM Ex rfl ?_))))))
 refine BV h fun v2 a2 h => Aw [] (Lx N v1 v2 a2) XJ rfl (Cm rfl (Ac ?_))
 refine Bb h (fun h => ?_) fun h => ?_
 ·refine wq rfl (qe rfl ?_)
  obtain rfl := sj h
  refine Af (sm [] [(6, bD false)] [(90000, .box [.own 90001, .own 90002, .own 90003]), (90001, .vec 1 (p1.fd.map Ao)), (90002, .vec 1 (p1.fa.map Ao)), (90003, .vec 1 (p1.fc.map CF))] rfl rfl) (As ?_)
  exact ⟨⟨[_], tm, rfl⟩, ⟨rfl, rfl, rfl, rfl, tv⟩, tv⟩
 ·refine Ak (wq rfl (qm rfl (W4 rfl (qL AZ Az rfl (qf Dl rfl (ql Cl rfl ?_))))))
  refine BV h fun v4 a4 h => CP [] [90001, 90002, 90003] (Oa N p1 v1.fg v4 a4) YZ BA rfl (qa rfl (AM (by kernel_rfl) (wq rfl (qm rfl (W4 rfl (qf Cx rfl (ql GU rfl (qm rfl ?_))))))))
  refine B3 h fun v5 a5 b5 h => qI Df FR a5 (Ag b5) rfl (qj Ks (Ag b5) rfl (qm rfl (I7 rfl (qa rfl (Ac (AS ?_))))))
  refine AR h (fun v6 => mk [(1, oD (.ptr 90000 0)), (2, iD p2), (8, pD (.val (.int .u8 v4))), (60, bD v6)] [(90000, .box [.own 90001, .own 90002, .own 90003]), (90001, .vec 1 (p1.fd.map Ao)), (90002, .vec 1 (p1.fa.map Ao)), (90003, .vec 1 (p1.fc.map CF))]) (fun j6 h => ?_) (fun v6 h => ?_)
  ·refine Ah Ax rfl (qm rfl (W4 rfl (qf Cx rfl (ql GU rfl (qm rfl ?_)))))
   refine B3 h fun v7 a7 b7 h => qI Df FR a7 (Ag b7) rfl (qj Ks (Ag b7) rfl (qm rfl (BY rfl (qm rfl ?_))))
   refine Eh 42 h rfl (fun h => ?_) fun h => ?_
   ·refine qw 4 rfl (qu rfl (qu rfl (qu rfl (qu rfl (qu rfl (qu rfl (qu rfl (qu rfl (qu rfl (qu rfl (qu rfl (qu rfl (qn rfl (qp rfl (AM (by kernel_rfl) ?_)))))))))))))))
    exact sn [] h
   ·refine qf Gw rfl (ql Cl rfl (BY rfl (qm rfl ?_)))
    refine Eh 46 h rfl (fun h => ?_) fun h => ?_
    ·refine qL HM Ex rfl (qw 2 rfl (W4 rfl (qf Ct rfl (ql A7 rfl (qf Dl rfl (ql Cl rfl ?_))))))
     refine B3 h fun v10 a10 b10 h => qI Ay Do a10 (Ag b10) rfl (qj Cl (Ag b10) rfl ?_)
     refine BV h fun v11 a11 h => Aw [] (MC N v1 ((DH .u8 v5 v4)) v10 v11 a11) Zt rfl (Cm rfl (qp rfl (qp rfl (AM (by kernel_rfl) ?_))))
     exact sn [] h
    ·refine qw 12 rfl (qp rfl (qp rfl (AM (by kernel_rfl) ?_)))
     exact sn [] h
  ·refine Bb h (fun h => ?_) fun h => ?_
   ·refine wq rfl (qe rfl ?_)
    obtain rfl := sj h
    refine Af (sm [] [(6, bD false)] [(90000, .box [.own 90001, .own 90002, .own 90003]), (90001, .vec 1 (p1.fd.map Ao)), (90002, .vec 1 (p1.fa.map Ao)), (90003, .vec 1 (p1.fc.map CF))] rfl rfl) (As ?_)
    exact ⟨⟨[_], tm, rfl⟩, ⟨rfl, rfl, rfl, rfl, tv⟩, tv⟩
   ·refine Ak (wq rfl (qm rfl (W4 rfl (qf Cx rfl (ql GU rfl (qw 2 rfl ?_))))))
    refine B3 h fun v13 a13 b13 h => qI Df FR a13 (Ag b13) rfl ?_
    refine Em rfl rfl rfl rfl (Ag b13) rfl FR rfl (IU rfl) (Ei CF p1.fc _ v4) ?_
    refine Ac (wq rfl (qe rfl ?_))
    obtain rfl := sj h
    refine Af (sm [] [(6, bD true)] [(90000, .box [.own 90001, .own 90002, .own 90003]), (90001, .vec 1 (p1.fd.map Ao)), (90002, .vec 1 (p1.fa.map Ao)), (90003, .vec 1 ((p1.fc.set ((p2).toNat) v4).map CF))] rfl rfl) (As ?_)
    exact ⟨⟨[_], tm, rfl⟩, ⟨rfl, rfl, rfl, rfl, tv⟩, tv⟩
theorem Ma (N : Nat) (p0 : Ab) (p1 : Aa) (p2 : Aj) (r : Aa × Bool) (h : FJ N p0 p1 p2 = some r) : Ar uS 97 [.e (.agg (Ae p0)), .e (.agg (AA p1)), .e (.agg (DI p2))] [(1, r.1.fd.map Ao), (1, r.1.fa.map Ao), (1, r.1.fc.map CF)] (.tup [.agg [.own 0, .own 1, .own 2], .one (.pure (.val (.bool r.2)))]) := by
 unfold FJ at h
 refine cw (n := 51) (rs := [.cell 6 46, .tmp 7]) Tryz.func97 fun w0 S0 => ?_
 refine wq rfl (qb rfl (qb rfl (qb rfl (qz B1 rfl (qa rfl (Ac (wq rfl (qL AZ Az rfl ?_))))))))
 refine BV h fun v1 a1 h => Aw [2001, 2002, 2003] (Pf N p1 v1 a1) YW rfl (qz B1 rfl (qs Az rfl (Ac (wp rfl (qf Gf rfl (ql Cl rfl (Ac (AO (wq rfl (BY rfl (qe rfl ?_)))))))))))
 refine Bb h (fun h => ?_) fun h => ?_
 ·refine wq rfl (qL AZ Az rfl (qL Db CM rfl (qL IA E2 rfl ?_)))
  refine BV h fun v3 a3 h => JD (ds0 := [_, _, _]) [8, 2001, 2002, 2003] [] [false, false, true, true] (Qw N p0 v1 p2 v3 a3) (.p rfl) ZJ rfl ⟨rfl, rfl, rfl, tv⟩ rfl rfl (Gy rfl) ⟨rfl, rfl, rfl, rfl, tv⟩ rfl (F7 rfl) tv ⟨(fun _ => rfl), (fun _ => rfl), (fun h => by cases h), (fun h => by cases h), tv⟩ rfl rfl rfl ?_
  refine qs Az rfl (qa rfl (AM (by kernel_rfl) ?_))
  obtain rfl := sj h
  refine Af (sm [(1000, 2001), (1001, 2002), (1002, 2003)] [(6, oD (.ptr 6 0)), (7, bD v3.1)] [(6, .box [.own 1000, .own 1001, .own 1002]), (1000, .vec 1 (v1.fd.map Ao)), (1001, .vec 1 (v3.2.1.map Ao)), (1002, .vec 1 (v3.2.2.map CF))] rfl rfl) (As ?_)
  exact ⟨⟨[_, _], ⟨.cellN _ _ _ _ _ _ _ rfl rfl AZ Az rfl rfl (IX rfl), tm⟩, rfl⟩, ⟨rfl, rfl, rfl, tv⟩⟩
 ·refine wq rfl (BY rfl (qe rfl ?_))
  refine Bb h (fun h => ?_) fun h => ?_
  ·refine wq rfl (qL AZ Az rfl (qL Db CM rfl (qf Fn rfl (ql Cl rfl ?_))))
   refine BV h fun v5 a5 h => JD (ds0 := [_, _, _]) [8, 2001, 2002, 2003] [] [false, false, false, true] (QC N p0 v1 p2.fh v5 a5) (.p rfl) Y9 rfl ⟨rfl, rfl, rfl, tv⟩ rfl rfl (Gy rfl) ⟨rfl, rfl, rfl, rfl, tv⟩ rfl (F7 rfl) tv ⟨(fun _ => rfl), (fun _ => rfl), (fun _ => rfl), (fun h => by cases h), tv⟩ rfl rfl rfl ?_
   refine qs Az rfl (qa rfl (AM (by kernel_rfl) ?_))
   obtain rfl := sj h
   refine Af (sm [(1000, 2001), (1001, 2002), (1002, 2003)] [(6, oD (.ptr 6 0)), (7, bD v5.1)] [(6, .box [.own 1000, .own 1001, .own 1002]), (1000, .vec 1 (v1.fd.map Ao)), (1001, .vec 1 (v1.fa.map Ao)), (1002, .vec 1 (v5.2.map CF))] rfl rfl) (As ?_)
   exact ⟨⟨[_, _], ⟨.cellN _ _ _ _ _ _ _ rfl rfl AZ Az rfl rfl (IX rfl), tm⟩, rfl⟩, ⟨rfl, rfl, rfl, tv⟩⟩
  ·refine Ak (wq rfl (qf Bo rfl (ql A7 rfl (qf Fn rfl (ql Cl rfl ?_)))))
   refine B3 h fun v6 a6 b6 h => qI Ay Do a6 (Ag b6) rfl (qj Cl (Ag b6) rfl (qa rfl (Ac (wp rfl (qm rfl (AV rfl (Ac ?_)))))))
   refine Bb h (fun h => ?_) fun h => ?_
   ·refine wq rfl (qL AZ Az rfl (qs Az rfl (qe rfl ?_)))
    obtain rfl := sj h
    refine Af (sm [(1000, 2001), (1001, 2002), (1002, 2003)] [(6, oD (.ptr 6 0)), (7, bD false)] [(6, .box [.own 1000, .own 1001, .own 1002]), (1000, .vec 1 (v1.fd.map Ao)), (1001, .vec 1 (v1.fa.map Ao)), (1002, .vec 1 (v1.fc.map CF))] rfl rfl) (As ?_)
    exact ⟨⟨[_, _], ⟨.cellN _ _ _ _ _ _ _ rfl rfl AZ Az rfl rfl (IX rfl), tm⟩, rfl⟩, ⟨rfl, rfl, rfl, tv⟩⟩
   ·refine Ak (wq rfl (qf Bo rfl (ql A7 rfl (qf Fn rfl (ql Cl rfl ?_)))))
    refine B3 h fun v8 a8 b8 h => qI Ay Do a8 (Ag b8) rfl ?_
    refine Em rfl rfl rfl rfl (Ag b8) rfl Do rfl (IU rfl) (Ei Ao v1.fa _ ((-1))) ?_
    refine Ac ?_
    refine AR h (fun v9 => mk [(6, oD (.ptr 6 0)), (8, oD (.ptr 8 0))] [(6, .box [.pure (.nil0), .pure (.nil0), .pure (.nil0)]), (8, .box [.own 2004, .own 2005, .own 2006]), (2004, .vec 1 (v9.map Ao)), (2005, .vec 1 ((v1.fa.set ((p2.fh).toNat) ((-1))).map Ao)), (2006, .vec 1 (v1.fc.map CF))]) (fun j9 h => ?_) (fun v9 h => ?_)
    ·refine wq rfl (qf Gf rfl (ql Cl rfl (BY rfl (Ac ?_))))
     refine Bb h (fun h => ?_) fun h => ?_
     ·refine Ah Ax rfl (qf Ct rfl (ql A7 rfl (qf Fn rfl (ql Cl rfl (qm rfl ?_)))))
      refine B3 h fun v11 a11 b11 h => qI Ay Do a11 (Ag b11) rfl ?_
      refine Em rfl rfl rfl rfl (Ag b11) rfl Do rfl (IU rfl) (Ei Ao v1.fd _ v6) ?_
      refine Ac ?_
      exact sn [(2004, 2001), (2005, 2002), (2006, 2003)] h
     ·refine Ak ?_
      exact sn [(2004, 2001), (2005, 2002), (2006, 2003)] h
    ·refine wq rfl (qL AZ Az rfl (qs Az rfl (qe rfl ?_)))
     obtain rfl := sj h
     refine Af (sm [(1000, 2004), (1001, 2005), (1002, 2006)] [(6, oD (.ptr 6 0)), (7, bD true)] [(6, .box [.own 1000, .own 1001, .own 1002]), (1000, .vec 1 (v9.map Ao)), (1001, .vec 1 ((v1.fa.set ((p2.fh).toNat) ((-1))).map Ao)), (1002, .vec 1 (v1.fc.map CF))] rfl rfl) (As ?_)
     exact ⟨⟨[_, _], ⟨.cellN _ _ _ _ _ _ _ rfl rfl AZ Az rfl rfl (IX rfl), tm⟩, rfl⟩, ⟨rfl, rfl, rfl, tv⟩⟩
theorem M0 (N : Nat) (p0 : Aj) (p1 : List Int) (p2 : List Int) (p3 : List Int) (p4 : List AC) (p5 : List Int) (p6 : List Int) (p7 : List Int) (r : Bool) (h : DO N p0 p1 p2 p3 p4 p5 p6 p7 = some r) : Ar uS 96 [.e (.agg (DI p0)), oD (.rop [.sl (p1.map Ao), .sl (p2.map Ao), .sl (p3.map Ao), .sl (p4.map Bh)]), oD (.rop [.sl (p5.map Ao), .sl (p6.map Ao), .sl (p7.map CF)])] [] (bD r) := by
 unfold DO at h
 refine cw (n := 16) (rs := [.tmp 4]) Tryz.func96 fun w0 S0 => ?_
 refine wq rfl (qb rfl (qa rfl (Ac (wq rfl (qK Db CM rfl (qK AZ Az rfl (qL IA E2 rfl ?_)))))))
 refine BV h fun v1 a1 h => Aw [2001, 2002, 2003] (Ma N ((Ab.mk p1 p2 p3 p4)) ((Aa.mk p5 p6 p7)) p0 v1 a1) ZE rfl (qm rfl (qx rfl (qx rfl (qz B1 rfl (qs Az rfl (qa rfl (Ac (wq rfl (qm rfl (Cm rfl (qe rfl ?_)))))))))))
 obtain rfl := sj h
 refine Af (sm [] [(4, bD ((!v1.2)))] [] rfl rfl) (As ?_)
 exact ⟨⟨[_], tm, rfl⟩, tv⟩
theorem GZ (N : Nat) (p0 : List Aj) (p1 : Aj → Option Bool) (r : Int) (h : B2 N p0 p1 = some r) : Ar uS 122 [pD (.sl (p0.map AP)), oD (.clo (HT (M1 true AP) tB p1))] [] (iD r) := by
 unfold B2 at h
 refine cw (n := 19) (rs := [.tmp 4]) Tryz.func122 fun w0 S0 => ?_
 refine wq rfl (qa rfl (Ac (wp rfl (qm rfl (AL E8 rfl (qm rfl (Ac ?_)))))))
 refine AH (L := A6 N p0 p1) h (fun v1 => mk [(0, pD (.sl (p0.map AP))), (1, oD (.clo (HT (M1 true AP) tB p1))), (7, iD ((p0.length : Int))), (8, iD v1)] []) (fun v2 => mk [] []) (fun _ _ => rfl) (sm [] _ _ rfl rfl) (fun j1 n1 v1 h => ?_) (fun v2 s h hs => ?_)
 ·unfold A6 at h
  refine wq rfl (AV rfl (Ac (AS ?_)))
  refine Bb h (fun h => ?_) fun h => ?_
  ·refine Ak (AS (AO (wq rfl (qm rfl (qa rfl (Ac (wq rfl (qw 3 rfl ?_))))))))
   refine B3 h fun v4 a4 b4 h => qi E8 E2 a4 (Ag b4) rfl (qK IA E2 rfl ?_)
   refine BV h fun v5 a5 h => Kp (ds0 := [_]) (ar := (M1 true AP) v4) (.p rfl) rfl rfl ⟨rfl, tv⟩ rfl rfl rfl (JC (Mx _ _ Od) a5) ?_
   refine Ac ?_
   refine Bb h (fun h => ?_) fun h => ?_
   ·refine wq rfl (qm rfl (qe rfl ?_))
    obtain rfl := sj h
    refine Af (sm [] [(4, iD v1)] [] rfl rfl) (As ?_)
    exact ⟨⟨[_], tm, rfl⟩, tv⟩
   ·refine Ak (Ah Ax rfl (A4 rfl (qm rfl (Ac ?_))))
    exact sn [] h
  ·refine AT ?_
   exact sn [] h
 ·refine Af hs (wq rfl (qe rfl ?_))
  obtain rfl := sj h
  refine Af (sm [] [(4, iD ((-1)))] [] rfl rfl) (As ?_)
  exact ⟨⟨[_], tm, rfl⟩, tv⟩
theorem GJ (N : Nat) (p0 : List Aj) (p1 : Aj → Option Bool) (r : Nat × (List Aj)) (h : BW N p0 p1 = some r) : DS uS 94 [oD (.own 90000), oD (.clo (HT (M1 true AP) tB p1))] [(.vec 3 (p0.map AP), .vec 3 (r.2.map AP))] [] (oD (.view 90000 3 0 r.1)) := by
 unfold BW at h
 refine FZ (n := 42) (rs := [.tmp 4]) Tryz.func94 rfl rfl rfl (IU rfl) (IU rfl) rfl rfl (IU rfl) rfl (IU rfl) fun w0 S0 GL => ?_
 refine Af (sm [] [(0, oD (.own 90000)), (1, oD (.clo (HT (M1 true AP) tB p1)))] [(90000, .vec 3 (p0.map AP))] rfl rfl) (wq rfl (qa rfl (Ac (wq rfl (qw 2 rfl ?_)))))
 refine BV h fun v1 a1 h => CP [] [90000] (GZ N p0 p1 v1 a1) Y3 BA rfl (qa rfl (Ac (wp rfl (qm rfl (BY rfl (Ac ?_))))))
 refine Bb h (fun h => ?_) fun h => ?_
 ·refine wq rfl (qm rfl (qe rfl ?_))
  obtain rfl := sj h
  refine Af ((NM AP p0 4 90000 3 rfl rfl).trans (sm [] [(4, oD (.view 90000 3 0 p0.length))] [(90000, .vec 3 (p0.map AP))] rfl rfl)) (As ?_)
  exact ⟨⟨[_], tm, rfl⟩, ⟨rfl, tv⟩, tv⟩
 ·refine Ak (wp rfl (qm rfl (A4 rfl (qe rfl ?_))))
  refine AH (L := AX N p1) h (fun v3 => mk [(0, oD (.own 90000)), (1, oD (.clo (HT (M1 true AP) tB p1))), (5, iD v3.2.1), (6, iD v3.2.2)] [(90000, .vec 3 (v3.1.map AP))]) (fun v4 => mk [(0, oD (.own 90000)), (5, iD v4.2)] [(90000, .vec 3 (v4.1.map AP))]) (fun _ _ => rfl) (sm [] _ _ rfl rfl) (fun j3 n3 v3 h => ?_) (fun v4 s h hs => ?_)
  ·unfold AX at h
   refine wp rfl (qw 2 rfl (D1 E8 rfl (AV rfl (Ac ?_))))
   refine Bb h (fun h => ?_) fun h => ?_
   ·refine Ak ?_
    refine AR h (fun v6 => mk [(0, oD (.own 90000)), (1, oD (.clo (HT (M1 true AP) tB p1))), (5, iD v6.2), (6, iD v3.2.2)] [(90000, .vec 3 (v6.1.map AP))]) (fun j6 h => ?_) (fun v6 h => ?_)
    ·refine AO (wq rfl (qw 2 rfl ?_))
     refine B3 h fun v7 a7 b7 h => qI E8 E2 a7 (Ag b7) rfl (qJ IA E2 (Ag b7) rfl (qz JQ rfl (qs E2 rfl (Ac (wq rfl (qm rfl (qL IA E2 rfl ?_)))))))
     refine BV h fun v8 a8 h => Kp (ds0 := [_]) (ar := (M1 true AP) v7) (.p rfl) rfl rfl ⟨rfl, tv⟩ rfl rfl rfl (JC (Mx _ _ Od) a8) ?_
     refine Cm rfl (Ac ?_)
     refine Bb h (fun h => ?_) fun h => ?_
     ·refine wq rfl (qw 2 rfl (qL IA E2 rfl ?_))
      refine B3 h fun v10 a10 b10 h => qI E8 E2 a10 (Ag b10) rfl ?_
      refine Em rfl rfl rfl rfl (Ag b10) rfl E2 rfl (IU rfl) (Ei AP v3.1 _ v7) ?_
      refine Ac (Ah Ax rfl (qm rfl (A4 rfl (qe rfl ?_))))
      exact sn [] h
     ·refine Ak ?_
      exact sn [] h
    ·refine Ah Ax rfl (qm rfl (A4 rfl (qe rfl ?_)))
     exact sn [] h
   ·refine AT ?_
    exact sn [] h
  ·refine Af hs (wq rfl (qw 2 rfl ?_))
   obtain ⟨c11, h⟩ := ET h
   have w12 : ((v4.2).toNat) + ((v4.1.length - (v4.2).toNat)) ≤ v4.1.length := by have := c11.2.1; have := c11.2.2; omega
   refine Hb AP v4.1 (.p rfl) rfl (G8 AP _ _ v4.1) rfl E8 E2 (.some _ _ _ _ c11.1) (.none _) ⟨rfl, tv⟩ tv c11.2.1 (by rw [uT]; exact c11.2.2) (uT _) rfl ?_
   have w13 : (Gv v4.1 ((v4.2).toNat) (uY ((v4.1.length - (v4.2).toNat)) ((Aj.mk 0 0 0)))).length = v4.1.length := Gg (by rw [zF3]; exact w12)
   refine OH AP v4.1 ((Aj.mk 0 0 0)) rfl rfl (IW AP _ _ ((v4.2).toNat) ((v4.1.length - (v4.2).toNat)) v4.1 w12) rfl E8 JQ rfl rfl rfl rfl ?_
   refine Ac (wq rfl (qw 2 rfl ?_))
   obtain ⟨c14, h⟩ := ET h
   have w15 : 0 + ((v4.2).toNat) ≤ (Gv v4.1 ((v4.2).toNat) (uY ((v4.1.length - (v4.2).toNat)) ((Aj.mk 0 0 0)))).length := by have := c14.2.1; have := c14.2.2; omega
   refine Hb AP (Gv v4.1 ((v4.2).toNat) (uY ((v4.1.length - (v4.2).toNat)) ((Aj.mk 0 0 0)))) (.p rfl) rfl (G8 AP _ _ (Gv v4.1 ((v4.2).toNat) (uY ((v4.1.length - (v4.2).toNat)) ((Aj.mk 0 0 0))))) rfl E8 E2 (.none _) (.some _ _ _ _ c14.1) tv ⟨rfl, tv⟩ c14.2.1 (by rw [uT]; exact c14.2.2) (uT _) rfl ?_
   refine qa rfl (Ac ?_)
   obtain rfl := sj h
   refine Af (sm [] [(4, oD (.view 90000 3 0 ((v4.2).toNat)))] [(90000, .vec 3 ((Gv v4.1 ((v4.2).toNat) (uY ((v4.1.length - (v4.2).toNat)) ((Aj.mk 0 0 0)))).map AP))] rfl rfl) (As ?_)
   exact ⟨⟨[_], tm, rfl⟩, ⟨rfl, tv⟩, tv⟩
theorem I3 (N : Nat) (p0 : Ab) (p1 : Aa) (r : (List Aj) × Int) (h : E5 N p0 p1 = some r) : Ar uS 48 [.e (.agg (Ae p0)), .e (.agg (AA p1))] [(3, r.1.map AP)] (.tup [.one (.own 0), .one (iC r.2)]) := by
 unfold E5 at h
 refine cw (n := 17) (rs := [.tmp 4, .tmp 5]) Tryz.func48 fun w0 S0 => ?_
 refine wq rfl (qb rfl (qb rfl (qa rfl (qa rfl (Ac (wp rfl (qL Db CM rfl (qL AZ Az rfl ?_))))))))
 refine BV h fun v1 a1 h => Aw [] (Il N p0 p1 v1 a1) Uu rfl (qa rfl (Ac (wq rfl (qm rfl (Ci rfl (Ac ?_))))))
 refine Bb h (fun h => ?_) fun h => ?_
 ·refine wq rfl (qm rfl (qa rfl (qe rfl ?_)))
  obtain rfl := sj h
  refine Af ((Bf 4 2001 3 rfl rfl rfl).trans (sm [(1000, 2001)] [(4, oD (.own 1000)), (5, iD v1)] [(1000, .vec 3 ((([] : List Aj)).map AP))] rfl rfl)) (As ?_)
  exact ⟨⟨[_, _], ⟨.tmp _ _ rfl, tm⟩, rfl⟩, ⟨rfl, tv⟩⟩
 ·refine Ak (wq rfl (qL Db CM rfl ?_))
  refine BV h fun v3 a3 h => Aw [2002] (SI N p0 v3 a3) bo rfl (CX (K0 2 [.sl (p0.fb.map Ao), .sl (p0.fi.map Ao), .sl (p0.fj.map Ao), .sl (p0.fe.map Bh)] rfl rfl) (CX (K0 3 [.sl (p1.fd.map Ao), .sl (p1.fa.map Ao), .sl (p1.fc.map CF)] rfl rfl) ?_))
  refine Kj (capD := [_, _]) (HT (M1 true AP) tB ((fun (x : Aj) => DO N x p0.fb p0.fi p0.fj p0.fe p1.fd p1.fa p1.fc))) (.p rfl) aF rfl ⟨rfl, rfl, tv⟩ rfl (fun ar t ht => by obtain ⟨x, r, rfl, hq, rfl⟩ := GI ht; exact M0 N x p0.fb p0.fi p0.fj p0.fe p1.fd p1.fa p1.fc r hq) ?_
  obtain ⟨v4, a4, h⟩ := bind_some h
  obtain ⟨c5, h⟩ := ET h
  have w6 : 0 + v4.1 ≤ v4.2.length := by rw [uT]; exact c5
  refine JD (ds0 := [_, _]) [2002] [] [true] (GJ N v3 ((fun (x : Aj) => DO N x p0.fb p0.fi p0.fj p0.fe p1.fd p1.fa p1.fc)) v4 a4) (.p rfl) ax rfl ⟨rfl, rfl, tv⟩ rfl rfl (by decide) ⟨rfl, tv⟩ rfl (F7 rfl) tv ⟨(fun h => by cases h), tv⟩ rfl rfl rfl ?_
  refine CX (Sn AP v4.2 16 2002 2003 3 v4.1 rfl rfl rfl rfl rfl c5) (qa rfl (qe rfl ?_))
  obtain rfl := sj h
  refine Af (sm [(1000, 2003)] [(4, oD (.own 1000)), (5, iD 0)] [(1000, .vec 3 ((v4.2.take v4.1).map AP))] rfl rfl) (As ?_)
  exact ⟨⟨[_, _], ⟨.tmp _ _ rfl, tm⟩, rfl⟩, ⟨rfl, tv⟩⟩
theorem P9 (N : Nat) (p0 : Aj) (r : Bool) (h : Hh N p0 = some r) : Ar uS 126 [.e (.agg (DI p0))] [] (bD r) := by
 unfold Hh at h
 refine cw (n := 27) (rs := [.tmp 2]) Tryz.func126 fun w0 S0 => ?_
 refine wq rfl (qb rfl (qa rfl (Ac (AS ?_))))
 refine AR h (fun v1 => mk [(1, oD (.ptr 1 0)), (18, bD v1)] [(1, .box (DI p0))]) (fun j1 h => ?_) (fun v1 h => ?_)
 ·refine Ah Ax rfl (qf Fn rfl (ql Cl rfl (qf Hk rfl (ql Cl rfl ?_))))
  refine Zz (.p rfl) rfl rfl ?_
  refine AV rfl (qm rfl ?_)
  refine Eh 9 h rfl (fun h => ?_) fun h => ?_
  ·refine qw 3 rfl (qp rfl (qw 4 rfl (qp rfl (Ac ?_))))
   exact sn [] h
  ·refine qf Gf rfl (ql Cl rfl (AV rfl (qp rfl (qm rfl ?_))))
   refine Eh 14 h rfl (fun h => ?_) fun h => ?_
   ·refine qw 3 rfl (qp rfl (Ac ?_))
    exact sn [] h
   ·refine qf Gf rfl (ql Cl rfl (FW rfl (qp rfl (Ac ?_))))
    exact sn [] h
 ·refine Bb h (fun h => ?_) fun h => ?_
  ·refine wq rfl (qe rfl ?_)
   obtain rfl := sj h
   refine Af (sm [] [(2, bD false)] [] rfl rfl) (As ?_)
   exact ⟨⟨[_], tm, rfl⟩, tv⟩
  ·refine Ak ?_
   refine AR h (fun v5 => mk [(2, bD v5)] []) (fun j5 h => ?_) (fun v5 h => ?_)
   ·refine Ah Ax rfl (qf Gf rfl (ql Cl rfl (BY rfl (qm rfl ?_))))
    refine Eh 22 h rfl (fun h => ?_) fun h => ?_
    ·refine qw 3 rfl (qp rfl (qe rfl ?_))
     exact sn [] h
    ·refine qf Hk rfl (ql Cl rfl (BY rfl (qp rfl (qe rfl ?_))))
     exact sn [] h
   ·obtain rfl := sj h
    refine Af (sm [] [(2, bD v5)] [] rfl rfl) (As ?_)
    exact ⟨⟨[_], tm, rfl⟩, tv⟩
theorem Pc (N : Nat) (p0 : Ab) (p1 : Aj) (r : Bool) (h : Gz N p0 p1 = some r) : Ar uS 127 [.e (.agg (Ae p0)), .e (.agg (DI p1))] [] (bD r) := by
 unfold Gz at h
 refine cw (n := 36) (rs := [.tmp 4]) Tryz.func127 fun w0 S0 => ?_
 refine wq rfl (qb rfl (qb rfl (qa rfl (Ac (wp rfl (qf Gf rfl (ql Cl rfl (BY rfl (Ac ?_)))))))))
 refine Bb h (fun h => ?_) fun h => ?_
 ·refine wq rfl (qf Fn rfl (ql Cl rfl (qf CY rfl (ql Hz rfl (AL Ek rfl (AV rfl (qe rfl ?_)))))))
  obtain rfl := sj h
  refine Af (sm [] [(4, bD ((decide (p1.fh < (p0.fe.length : Int)))))] [] rfl rfl) (As ?_)
  exact ⟨⟨[_], tm, rfl⟩, tv⟩
 ·refine Ak ?_
  refine AR h (fun v2 => mk [(4, bD v2)] []) (fun j2 h => ?_) (fun v2 h => ?_)
  ·refine Ah Ax rfl (qf Fn rfl (ql Cl rfl (qf Bt rfl (ql A7 rfl (AL Ay rfl (AV rfl (qm rfl ?_)))))))
   refine Eh 20 h rfl (fun h => ?_) fun h => ?_
   ·refine qf Gf rfl (ql Cl rfl (Ci rfl (qm rfl ?_)))
    refine Eh 24 h rfl (fun h => ?_) fun h => ?_
    ·refine qw 9 rfl (qp rfl (qp rfl (qa rfl (AM (by kernel_rfl) ?_))))
     exact sn [] h
    ·refine qf Hk rfl (ql Cl rfl (qf Bt rfl (ql A7 rfl (qf Fn rfl (ql Cl rfl ?_)))))
     refine B3 h fun v5 a5 b5 h => qi Ay Do a5 (Ag b5) rfl (qk Cl rfl (AV rfl (qp rfl (qp rfl (qa rfl (AM (by kernel_rfl) ?_))))))
     exact sn [] h
   ·refine qw 4 rfl (qu rfl (qu rfl (qu rfl (qu rfl (qu rfl (qu rfl (qu rfl (qu rfl (qu rfl (qn rfl (qp rfl (qa rfl (AM (by kernel_rfl) ?_)))))))))))))
    exact sn [] h
  ·obtain rfl := sj h
   refine Af (sm [] [(4, bD v2)] [] rfl rfl) (As ?_)
   exact ⟨⟨[_], tm, rfl⟩, tv⟩
theorem Qc (N : Nat) (p0 : Ab) (p1 : Aa) (p2 : Aj) (r : Aa × Int) (h : He N p0 p1 p2 = some r) : Ar uS 98 [.e (.agg (Ae p0)), .e (.agg (AA p1)), .e (.agg (DI p2))] [(1, r.1.fd.map Ao), (1, r.1.fa.map Ao), (1, r.1.fc.map CF)] (.tup [.agg [.own 0, .own 1, .own 2], .one (iC r.2)]) := by
 unfold He at h
 refine cw (n := 32) (rs := [.cell 6 46, .tmp 7]) Tryz.func98 fun w0 S0 => ?_
 refine wq rfl (qb rfl (qb rfl (qb rfl (qz B1 rfl (qa rfl (Ac (AS (AO (wq rfl (qL IA E2 rfl ?_))))))))))
 refine BV h fun v1 a1 h => Aw [] (P9 N p2 v1 a1) ZG rfl (Cm rfl (qe rfl ?_))
 refine Bb h (fun h => ?_) fun h => ?_
 ·refine wq rfl (Br B1 Hu rfl (qs Az rfl (qe rfl ?_)))
  obtain rfl := sj h
  refine Af ((Av 6 0 2001 1 _ rfl rfl rfl rfl).trans ((Av 6 1 2002 1 _ rfl rfl rfl rfl).trans ((Av 6 2 2003 1 _ rfl rfl rfl rfl).trans (sm [(1000, 2001), (1001, 2002), (1002, 2003)] [(6, oD (.ptr 6 0)), (7, iD 1)] [(6, .box [.own 1000, .own 1001, .own 1002]), (1000, .vec 1 ((([] : List Int)).map Ao)), (1001, .vec 1 ((([] : List Int)).map Ao)), (1002, .vec 1 ((([] : List Int)).map CF))] rfl rfl)))) (As ?_)
  exact ⟨⟨[_, _], ⟨.cellN _ _ _ _ _ _ _ rfl rfl AZ Az rfl rfl (IX rfl), tm⟩, rfl⟩, ⟨rfl, rfl, rfl, tv⟩⟩
 ·refine wq rfl (qL Db CM rfl (qL IA E2 rfl ?_))
  refine BV h fun v3 a3 h => Aw [] (Pc N p0 p2 v3 a3) ZI rfl (Cm rfl (qe rfl ?_))
  refine Bb h (fun h => ?_) fun h => ?_
  ·refine wq rfl (Br B1 Hu rfl (qs Az rfl (qe rfl ?_)))
   obtain rfl := sj h
   refine Af ((Av 6 0 2004 1 _ rfl rfl rfl rfl).trans ((Av 6 1 2005 1 _ rfl rfl rfl rfl).trans ((Av 6 2 2006 1 _ rfl rfl rfl rfl).trans (sm [(1000, 2004), (1001, 2005), (1002, 2006)] [(6, oD (.ptr 6 0)), (7, iD 4)] [(6, .box [.own 1000, .own 1001, .own 1002]), (1000, .vec 1 ((([] : List Int)).map Ao)), (1001, .vec 1 ((([] : List Int)).map Ao)), (1002, .vec 1 ((([] : List Int)).map CF))] rfl rfl)))) (As ?_)
   exact ⟨⟨[_, _], ⟨.cellN _ _ _ _ _ _ _ rfl rfl AZ Az rfl rfl (IX rfl), tm⟩, rfl⟩, ⟨rfl, rfl, rfl, tv⟩⟩
  ·refine Ak (wq rfl (qL Db CM rfl (qL AZ Az rfl (qL IA E2 rfl ?_))))
   refine BV h fun v5 a5 h => Aw [2007, 2008, 2009] (Ma N p0 p1 p2 v5 a5) ZE rfl (qm rfl (qx rfl (qx rfl (qz B1 rfl (qs Az rfl (qa rfl (Ac (wp rfl (qm rfl (Cm rfl (Ac ?_)))))))))))
   refine Bb h (fun h => ?_) fun h => ?_
   ·refine wq rfl (Br B1 Hu rfl (qs Az rfl (qe rfl ?_)))
    obtain rfl := sj h
    refine Af ((Av 6 0 2010 1 _ rfl rfl rfl rfl).trans ((Av 6 1 2011 1 _ rfl rfl rfl rfl).trans ((Av 6 2 2012 1 _ rfl rfl rfl rfl).trans (sm [(1000, 2010), (1001, 2011), (1002, 2012)] [(6, oD (.ptr 6 0)), (7, iD 11)] [(6, .box [.own 1000, .own 1001, .own 1002]), (1000, .vec 1 ((([] : List Int)).map Ao)), (1001, .vec 1 ((([] : List Int)).map Ao)), (1002, .vec 1 ((([] : List Int)).map CF))] rfl rfl)))) (As ?_)
    exact ⟨⟨[_, _], ⟨.cellN _ _ _ _ _ _ _ rfl rfl AZ Az rfl rfl (IX rfl), tm⟩, rfl⟩, ⟨rfl, rfl, rfl, tv⟩⟩
   ·refine Ak (wq rfl (qL AZ Az rfl (qs Az rfl (qe rfl ?_))))
    obtain rfl := sj h
    refine Af (sm [(1000, 2007), (1001, 2008), (1002, 2009)] [(6, oD (.ptr 6 0)), (7, iD 0)] [(6, .box [.own 1000, .own 1001, .own 1002]), (1000, .vec 1 (v5.1.fd.map Ao)), (1001, .vec 1 (v5.1.fa.map Ao)), (1002, .vec 1 (v5.1.fc.map CF))] rfl rfl) (As ?_)
    exact ⟨⟨[_, _], ⟨.cellN _ _ _ _ _ _ _ rfl rfl AZ Az rfl rfl (IX rfl), tm⟩, rfl⟩, ⟨rfl, rfl, rfl, tv⟩⟩
theorem J9 (N : Nat) (p0 : Ab) (p1 : Aa) (p2 : Aj) (r : Aa × Int) (h : FO N p0 p1 p2 = some r) : Ar uS 49 [.e (.agg (Ae p0)), .e (.agg (AA p1)), .e (.agg (DI p2))] [(1, r.1.fd.map Ao), (1, r.1.fa.map Ao), (1, r.1.fc.map CF)] (.tup [.agg [.own 0, .own 1, .own 2], .one (iC r.2)]) := by
 unfold FO at h
 refine cw (n := 22) (rs := [.cell 6 46, .tmp 7]) Tryz.func49 fun w0 S0 => ?_
 refine wq rfl (qb rfl (qb rfl (qb rfl (qz B1 rfl (qa rfl (Ac (wp rfl (qL Db CM rfl (qL AZ Az rfl ?_)))))))))
 refine BV h fun v1 a1 h => Aw [] (Il N p0 p1 v1 a1) Uu rfl (qa rfl (Ac (wq rfl (qm rfl (Ci rfl (Ac ?_))))))
 refine Bb h (fun h => ?_) fun h => ?_
 ·refine wq rfl (Br B1 Hu rfl (qm rfl (qs Az rfl (qe rfl ?_))))
  obtain rfl := sj h
  refine Af ((Av 6 0 2001 1 _ rfl rfl rfl rfl).trans ((Av 6 1 2002 1 _ rfl rfl rfl rfl).trans ((Av 6 2 2003 1 _ rfl rfl rfl rfl).trans (sm [(1000, 2001), (1001, 2002), (1002, 2003)] [(6, oD (.ptr 6 0)), (7, iD v1)] [(6, .box [.own 1000, .own 1001, .own 1002]), (1000, .vec 1 ((([] : List Int)).map Ao)), (1001, .vec 1 ((([] : List Int)).map Ao)), (1002, .vec 1 ((([] : List Int)).map CF))] rfl rfl)))) (As ?_)
  exact ⟨⟨[_, _], ⟨.cellN _ _ _ _ _ _ _ rfl rfl AZ Az rfl rfl (IX rfl), tm⟩, rfl⟩, ⟨rfl, rfl, rfl, tv⟩⟩
 ·refine Ak (wq rfl (qL Db CM rfl (qL AZ Az rfl (qL IA E2 rfl ?_))))
  refine BV h fun v3 a3 h => Aw [2004, 2005, 2006] (Qc N p0 p1 p2 v3 a3) aB rfl (qx rfl (qx rfl (qs Az rfl (qe rfl ?_))))
  obtain rfl := sj h
  refine Af (sm [(1000, 2004), (1001, 2005), (1002, 2006)] [(6, oD (.ptr 6 0)), (7, iD v3.2)] [(6, .box [.own 1000, .own 1001, .own 1002]), (1000, .vec 1 (v3.1.fd.map Ao)), (1001, .vec 1 (v3.1.fa.map Ao)), (1002, .vec 1 (v3.1.fc.map CF))] rfl rfl) (As ?_)
  exact ⟨⟨[_, _], ⟨.cellN _ _ _ _ _ _ _ rfl rfl AZ Az rfl rfl (IX rfl), tm⟩, rfl⟩, ⟨rfl, rfl, rfl, tv⟩⟩
theorem QT (N : Nat) (p0 : Ab) (p1 : Aa) (r : (List Aj) × (List Aa)) (h : JP N p0 p1 = some r) : Ar uS 85 [.e (.agg (Ae p0)), .e (.agg (AA p1))] [(3, r.1.map AP), (3, r.2.map Al)] (.tup [.one (.own 0), .one (.own 1)]) := by
 unfold JP at h
 refine cw (n := 55) (rs := [.tmp 4, .tmp 5]) Tryz.func85 fun w0 S0 => ?_
 refine wq rfl (qb rfl (qb rfl (qa rfl (qa rfl (Ac (wq rfl (qa rfl (Ac (wq rfl (qa rfl (Ac (wq rfl (qL Db CM rfl (qL AZ Az rfl ?_))))))))))))))
 refine BV h fun v1 a1 h => Aw [2001] (I3 N p0 p1 v1 a1) Yu rfl (qm rfl (qx rfl (qx rfl (qa rfl (qa rfl (Ac (wp rfl (qm rfl (D1 E8 rfl (qm rfl (Ac ?_)))))))))))
 refine AH (L := GK N p0 p1 v1) h (fun v2 => mk [(2, oD (.ptr 2 0)), (3, oD (.ptr 3 0)), (6, oD (.own 2002)), (7, oD (.own 2003)), (22, oD (.own 2004)), (23, iD ((v1.1.length : Int))), (24, iD v2.2.2)] [(2, .box (Ae p0)), (3, .box (AA p1)), (2002, .vec 3 (v2.1.map AP)), (2003, .vec 3 (v2.2.1.map Al)), (2004, .vec 3 (v1.1.map AP))]) (fun v3 => mk [(6, oD (.own 2005)), (7, oD (.own 2006))] [(2005, .vec 3 (v3.1.map AP)), (2006, .vec 3 (v3.2.map Al))]) (fun _ _ => rfl) ((Bf 6 2013 3 rfl rfl rfl).trans ((Bf 7 2014 3 rfl rfl rfl).trans (sm [(2002, 2013), (2003, 2014), (2004, 2001)] _ _ rfl rfl))) (fun j2 n2 v2 h => ?_) (fun v3 s h hs => ?_)
 ·unfold GK at h
  refine wq rfl (AV rfl (Ac (AS ?_)))
  refine Bb h (fun h => ?_) fun h => ?_
  ·refine Ak ?_
   refine AR h (fun v5 => mk [(2, oD (.ptr 2 0)), (3, oD (.ptr 3 0)), (6, oD (.own 2007)), (7, oD (.own 2008)), (22, oD (.own 2009)), (23, iD ((v1.1.length : Int))), (24, iD v2.2.2)] [(2, .box (Ae p0)), (3, .box (AA p1)), (2007, .vec 3 (v5.1.map AP)), (2008, .vec 3 (v5.2.map Al)), (2009, .vec 3 (v1.1.map AP))]) (fun j5 h => ?_) (fun v5 h => ?_)
   ·refine AO (wq rfl ?_)
    refine B3 h fun v6 a6 b6 h => qI E8 E2 a6 (Ag b6) rfl (qJ IA E2 (Ag b6) rfl (qz JQ rfl (qs E2 rfl (Ac (wq rfl (qL Db CM rfl (qL AZ Az rfl (qL IA E2 rfl ?_))))))))
    refine BV h fun v7 a7 h => Aw [2010, 2011, 2012] (J9 N p0 p1 v6 v7 a7) Ya rfl (qm rfl (qx rfl (qx rfl (qz B1 rfl (qs Az rfl (qa rfl (Ac (wp rfl (qm rfl (Ci rfl (Ac ?_)))))))))))
    refine Bb h (fun h => ?_) fun h => ?_
    ·refine AT ?_
     exact sn [(2007, 2002), (2008, 2003), (2009, 2004)] h
    ·refine Ak (wq rfl (qL Db CM rfl (qL AZ Az rfl ?_)))
     refine BV h fun v9 a9 h => CP [] [2010, 2011, 2012] (HZ N p0 v7.1 v9 a9) U1 BA rfl (qm rfl (qx rfl (qx rfl (qa rfl (qa rfl (Ac (wq rfl (qm rfl (Ac ?_)))))))))
     refine Bb h (fun h => ?_) fun h => ?_
     ·refine Af (AU 2010 _ _ rfl rfl) (Af (AU 2011 _ _ rfl rfl) (Af (AU 2012 _ _ rfl rfl) (Ah Ax rfl (qm rfl (qL IA E2 rfl (DF E8 E2 JQ rfl ?_))))))
      refine F4 h fun c11 h => Dp (f := AP) E8 E8 E2 Rh JQ c11 rfl (qm rfl (qL AZ Az rfl (DF A0 Az B1 rfl ?_)))
      refine F4 h fun c12 h => Dp (f := Al) A0 A0 Az Lp B1 c12 rfl (qa rfl (qa rfl (AM (by kernel_rfl) ?_)))
      exact sn [(2007, 47), (2008, 51), (2009, 2004)] h
     ·refine Ak ?_
      exact sn [(2007, 2002), (2008, 2003), (2009, 2004)] h
   ·refine Ah Ax rfl (A4 rfl (qm rfl (Ac ?_)))
    exact sn [(2002, 2007), (2003, 2008), (2004, 2009)] h
  ·refine AT ?_
   exact sn [(2005, 2002), (2006, 2003)] h
 ·refine Af hs (wq rfl (qw 2 rfl (qa rfl (qe rfl ?_))))
  obtain rfl := sj h
  refine Af (sm [(1000, 2005), (1001, 2006)] [(4, oD (.own 1000)), (5, oD (.own 1001))] [(1000, .vec 3 (v3.1.map AP)), (1001, .vec 3 (v3.2.map Al))] rfl rfl) (As ?_)
  exact ⟨⟨[_, _], ⟨.tmp _ _ rfl, tm⟩, rfl⟩, ⟨rfl, rfl, tv⟩⟩
def YC : Go.Shelf.Ren := ⟨fun | 6 => 86 | 14 => 118 | 15 => 105 | 20 => 145 | 21 => 146 | 22 => 147 | 23 => 148 | 24 => 149 | 25 => 150 | 26 => 151 | 27 => 152 | 28 => 140 | 29 => 141 | 46 => 166 | 47 => 162 | 48 => 163 | 49 => 167 | 50 => 168 | 57 => 172 | n => n, fun | 0 => 0 | 3 => 3 | 4 => 4 | 5 => 5 | 9 => 9 | 22 => 30 | 24 => 46 | 25 => 92 | 39 => 152 | 45 => 172 | 46 => 173 | 50 => 122 | 53 => 179 | 55 => 181 | 66 => 195 | 70 => 199 | 76 => 205 | 77 => 206 | n => n, fun n => n⟩
theorem XP : SlLaysF0.n6 uS YC := { mixed := Ax, f6 := ⟨Tryz.f86.name, by decide, Tryz.func86.trans (congrArg some (by kernel_rfl))⟩, f14 := ⟨Tryz.f118.name, by decide, Tryz.func118.trans (congrArg some (by kernel_rfl))⟩, f15 := Tryz.func105.trans (congrArg some (by kernel_rfl)), f20 := ⟨Tryz.f145.name, by decide, Tryz.func145.trans (congrArg some (by kernel_rfl))⟩, f21 := ⟨Tryz.f146.name, by decide, Tryz.func146.trans (congrArg some (by kernel_rfl))⟩, f22 := ⟨Tryz.f147.name, by decide, Tryz.func147.trans (congrArg some (by kernel_rfl))⟩, f23 := ⟨Tryz.f148.name, by decide, Tryz.func148.trans (congrArg some (by kernel_rfl))⟩, f24 := ⟨Tryz.f149.name, by decide, Tryz.func149.trans (congrArg some (by kernel_rfl))⟩, f25 := ⟨Tryz.f150.name, by decide, Tryz.func150.trans (congrArg some (by kernel_rfl))⟩, f26 := ⟨Tryz.f151.name, by decide, Tryz.func151.trans (congrArg some (by kernel_rfl))⟩, f27 := ⟨Tryz.f152.name, by decide, Tryz.func152.trans (congrArg some (by kernel_rfl))⟩, f28 := Tryz.func140.trans (congrArg some (by kernel_rfl)), f29 := Tryz.func141.trans (congrArg some (by kernel_rfl)), f46 := ⟨Tryz.f166.name, by decide, Tryz.func166.trans (congrArg some (by kernel_rfl))⟩, f47 := Tryz.func162.trans (congrArg some (by kernel_rfl)), f48 := Tryz.func163.trans (congrArg some (by kernel_rfl)), f49 := ⟨Tryz.f167.name, by decide, Tryz.func167.trans (congrArg some (by kernel_rfl))⟩, f50 := ⟨Tryz.f168.name, by decide, Tryz.func168.trans (congrArg some (by kernel_rfl))⟩, f57 := ⟨Tryz.f172.name, by decide, Tryz.func172.trans (congrArg some (by kernel_rfl))⟩, t0 := Tryz.underlying0, a0 := Tryz.isAgg0, z0 := Tryz.sizeOf0, v0 := Tryz.zeroValue0, t3 := Tryz.underlying3, a3 := Tryz.isAgg3, z3 := Tryz.sizeOf3, v3 := Tryz.zeroValue3, t4 := Tryz.underlying4, a4 := Tryz.isAgg4, z4 := Tryz.sizeOf4, v4 := Tryz.zeroValue4, t5 := Tryz.underlying5, a5 := Tryz.isAgg5, z5 := Tryz.sizeOf5, v5 := Tryz.zeroValue5, t9 := Tryz.underlying9, a9 := Tryz.isAgg9, z9 := Tryz.sizeOf9, v9 := Tryz.zeroValue9, t22 := Tryz.underlying30, a22 := Tryz.isAgg30, z22 := Tryz.sizeOf30, v22 := Tryz.zeroValue30, t25 := Tryz.underlying92, a25 := Tryz.isAgg92, z25 := Tryz.sizeOf92, v25 := Tryz.zeroValue92, t39 := Tryz.underlying152, a39 := Tryz.isAgg152, z39 := Tryz.sizeOf152, v39 := Tryz.zeroValue152, t45 := Tryz.underlying172, a45 := Tryz.isAgg172, z45 := Tryz.sizeOf172, v45 := Tryz.zeroValue172, t46 := Tryz.underlying173, a46 := Tryz.isAgg173, z46 := Tryz.sizeOf173, v46 := Tryz.zeroValue173, t50 := Tryz.underlying122, a50 := Tryz.isAgg122, z50 := Tryz.sizeOf122, v50 := Tryz.zeroValue122, t53 := Tryz.underlying179, a53 := Tryz.isAgg179, z53 := Tryz.sizeOf179, v53 := Tryz.zeroValue179, t55 := Tryz.underlying181, a55 := Tryz.isAgg181, z55 := Tryz.sizeOf181, v55 := Tryz.zeroValue181, t66 := Tryz.underlying195, a66 := Tryz.isAgg195, z66 := Tryz.sizeOf195, v66 := Tryz.zeroValue195, t70 := Tryz.underlying199, a70 := Tryz.isAgg199, z70 := Tryz.sizeOf199, v70 := Tryz.zeroValue199, t76 := Tryz.underlying205, a76 := Tryz.isAgg205, z76 := Tryz.sizeOf205, v76 := Tryz.zeroValue205, t77 := Tryz.underlying206, a77 := Tryz.isAgg206, z77 := Tryz.sizeOf206, v77 := Tryz.zeroValue206 }
theorem HL (N : Nat) (p0 : List Aa) (p1 : (Aa × Aa) → Option Int) (r : (List Aa)) (h : Fl N p0 p1 = some r) : DS uS 86 [oD (.own 90000), oD (.clo (HT (Uj true Al true Al) VG p1))] [(.vec 3 (p0.map Al), .vec 3 (r.map Al))] [] (.tup []) := SW XP 3 (HC AZ) (Dy Az) IT (@R0) h
theorem Kt (N : Nat) (p0 : Int) (r : Bool) (h : F2 N p0 = some r) : Ar uS 106 [iD p0] [] (bD r) := by
 unfold F2 at h
 refine cw (n := 6) (rs := [.tmp 2]) Tryz.func106 fun w0 S0 => ?_
 refine wq rfl (qa rfl (Ac (wq rfl (qw 2 rfl (Ci rfl (qe rfl ?_))))))
 obtain rfl := sj h
 refine Af (sm [] [(2, bD ((p0 != p0)))] [] rfl rfl) (As ?_)
 exact ⟨⟨[_], tm, rfl⟩, tv⟩
theorem Gs (N : Nat) (p0 : Int) (p1 : Int) (r : Int) (h : Dv N p0 p1 = some r) : Ar uS 62 [iD p0, iD p1] [] (iD r) := by
 unfold Dv at h
 refine cw (n := 20) (rs := [.tmp 4]) Tryz.func62 fun w0 S0 => ?_
 refine wq rfl (qa rfl (Ac (wq rfl (qm rfl ?_))))
 refine BV h fun v1 a1 h => Aw [] (Kt N p0 v1 a1) Xy rfl (qa rfl (Ac (wq rfl (qm rfl ?_))))
 refine BV h fun v2 a2 h => Aw [] (Kt N p1 v2 a2) Xy rfl (qa rfl (Ac (wp rfl (qm rfl (Ac ?_)))))
 refine Bb h (fun h => ?_) fun h => ?_
 ·refine wp rfl (qm rfl (Ac ?_))
  refine Bb h (fun h => ?_) fun h => ?_
  ·refine wq rfl (qe rfl ?_)
   obtain rfl := sj h
   refine Af (sm [] [(4, iD 0)] [] rfl rfl) (As ?_)
   exact ⟨⟨[_], tm, rfl⟩, tv⟩
  ·refine Ak (wq rfl (qe rfl ?_))
   obtain rfl := sj h
   refine Af (sm [] [(4, iD ((-1)))] [] rfl rfl) (As ?_)
   exact ⟨⟨[_], tm, rfl⟩, tv⟩
 ·refine Ak (wp rfl (qm rfl (Ac ?_)))
  refine Bb h (fun h => ?_) fun h => ?_
  ·refine wq rfl (qe rfl ?_)
   obtain rfl := sj h
   refine Af (sm [] [(4, iD 1)] [] rfl rfl) (As ?_)
   exact ⟨⟨[_], tm, rfl⟩, tv⟩
  ·refine Ak (wp rfl (qw 2 rfl (AV rfl (Ac ?_))))
   refine Bb h (fun h => ?_) fun h => ?_
   ·refine wq rfl (qe rfl ?_)
    obtain rfl := sj h
    refine Af (sm [] [(4, iD ((-1)))] [] rfl rfl) (As ?_)
    exact ⟨⟨[_], tm, rfl⟩, tv⟩
   ·refine Ak (wp rfl (qw 2 rfl (FW rfl (Ac ?_))))
    refine Bb h (fun h => ?_) fun h => ?_
    ·refine wq rfl (qe rfl ?_)
     obtain rfl := sj h
     refine Af (sm [] [(4, iD 1)] [] rfl rfl) (As ?_)
     exact ⟨⟨[_], tm, rfl⟩, tv⟩
    ·refine Ak (wq rfl (qe rfl ?_))
     obtain rfl := sj h
     refine Af (sm [] [(4, iD 0)] [] rfl rfl) (As ?_)
     exact ⟨⟨[_], tm, rfl⟩, tv⟩
theorem G4 (N : Nat) (p0 : List Int) (p1 : List Int) (r : Int) (h : C4 N p0 p1 = some r) : Ar uS 92 [pD (.sl (p0.map Ao)), pD (.sl (p1.map Ao))] [] (iD r) := by
 unfold C4 at h
 refine cw (n := 36) (rs := [.tmp 4]) Tryz.func92 fun w0 S0 => ?_
 refine wq rfl (qa rfl (Ac (wp rfl (qm rfl (AL Ay rfl (qm rfl (Ac ?_)))))))
 refine AH (L := Cv N p0 p1) h (fun v1 => mk [(0, pD (.sl (p0.map Ao))), (1, pD (.sl (p1.map Ao))), (9, pD (.sl (p0.map Ao))), (10, iD ((p0.length : Int))), (11, iD v1)] []) (fun v2 => mk [(0, pD (.sl (p0.map Ao))), (1, pD (.sl (p1.map Ao)))] []) (fun _ _ => rfl) (sm [] _ _ rfl rfl) (fun j1 n1 v1 h => ?_) (fun v2 s h hs => ?_)
 ·unfold Cv at h
  refine wq rfl (AV rfl (Ac (AS ?_)))
  refine Bb h (fun h => ?_) fun h => ?_
  ·refine Ak (AS (AO (wq rfl (qm rfl ?_))))
   refine B3 h fun v4 a4 b4 h => qi Ay Do a4 (Ag b4) rfl (qk Cl rfl (qa rfl (qa rfl (Ac (wp rfl (qw 2 rfl (AL Ay rfl (Fb rfl (Ac ?_)))))))))
   refine Bb h (fun h => ?_) fun h => ?_
   ·refine wq rfl (qe rfl ?_)
    obtain rfl := sj h
    refine Af (sm [] [(4, iD 1)] [] rfl rfl) (As ?_)
    exact ⟨⟨[_], tm, rfl⟩, tv⟩
   ·refine Ak (wq rfl (qw 2 rfl ?_))
    refine B3 h fun v6 a6 b6 h => qi Ay Do a6 (Ag b6) rfl (qk Cl rfl (qa rfl (Ac (wq rfl (qw 2 rfl ?_)))))
    refine BV h fun v7 a7 h => Aw [] (Gs N v4 v6 v7 a7) Wu rfl (qa rfl (Ac (wq rfl (qm rfl (Ci rfl (Ac ?_))))))
    refine Bb h (fun h => ?_) fun h => ?_
    ·refine wq rfl (qm rfl (qe rfl ?_))
     obtain rfl := sj h
     refine Af (sm [] [(4, iD v7)] [] rfl rfl) (As ?_)
     exact ⟨⟨[_], tm, rfl⟩, tv⟩
    ·refine Ak (Ah Ax rfl (A4 rfl (qm rfl (Ac ?_))))
     exact sn [] h
  ·refine AT ?_
   exact sn [] h
 ·refine Af hs (wp rfl (qm rfl (AL Ay rfl (qm rfl (AL Ay rfl (AV rfl (Ac ?_)))))))
  refine Bb h (fun h => ?_) fun h => ?_
  ·refine wq rfl (qe rfl ?_)
   obtain rfl := sj h
   refine Af (sm [] [(4, iD ((-1)))] [] rfl rfl) (As ?_)
   exact ⟨⟨[_], tm, rfl⟩, tv⟩
  ·refine Ak (wq rfl (qe rfl ?_))
   obtain rfl := sj h
   refine Af (sm [] [(4, iD 0)] [] rfl rfl) (As ?_)
   exact ⟨⟨[_], tm, rfl⟩, tv⟩
theorem IJ (N : Nat) (p0 : Int) (r : Bool) (h : EV N p0 = some r) : Ar uS 155 [pD (.val (.int .u8 p0))] [] (bD r) := by
 unfold EV at h
 refine cw (n := 6) (rs := [.tmp 2]) Tryz.func155 fun w0 S0 => ?_
 refine wq rfl (qa rfl (Ac (wq rfl (qw 2 rfl (Ci rfl (qe rfl ?_))))))
 obtain rfl := sj h
 refine Af (sm [] [(2, bD ((p0 != p0)))] [] rfl rfl) (As ?_)
 exact ⟨⟨[_], tm, rfl⟩, tv⟩
theorem Kz (N : Nat) (p0 : Int) (p1 : Int) (r : Int) (h : Ep N p0 p1 = some r) : Ar uS 121 [pD (.val (.int .u8 p0)), pD (.val (.int .u8 p1))] [] (iD r) := by
 unfold Ep at h
 refine cw (n := 20) (rs := [.tmp 4]) Tryz.func121 fun w0 S0 => ?_
 refine wq rfl (qa rfl (Ac (wq rfl (qm rfl ?_))))
 refine BV h fun v1 a1 h => Aw [] (IJ N p0 v1 a1) Xo rfl (qa rfl (Ac (wq rfl (qm rfl ?_))))
 refine BV h fun v2 a2 h => Aw [] (IJ N p1 v2 a2) Xo rfl (qa rfl (Ac (wp rfl (qm rfl (Ac ?_)))))
 refine Bb h (fun h => ?_) fun h => ?_
 ·refine wp rfl (qm rfl (Ac ?_))
  refine Bb h (fun h => ?_) fun h => ?_
  ·refine wq rfl (qe rfl ?_)
   obtain rfl := sj h
   refine Af (sm [] [(4, iD 0)] [] rfl rfl) (As ?_)
   exact ⟨⟨[_], tm, rfl⟩, tv⟩
  ·refine Ak (wq rfl (qe rfl ?_))
   obtain rfl := sj h
   refine Af (sm [] [(4, iD ((-1)))] [] rfl rfl) (As ?_)
   exact ⟨⟨[_], tm, rfl⟩, tv⟩
 ·refine Ak (wp rfl (qm rfl (Ac ?_)))
  refine Bb h (fun h => ?_) fun h => ?_
  ·refine wq rfl (qe rfl ?_)
   obtain rfl := sj h
   refine Af (sm [] [(4, iD 1)] [] rfl rfl) (As ?_)
   exact ⟨⟨[_], tm, rfl⟩, tv⟩
  ·refine Ak (wp rfl (qw 2 rfl (AV rfl (Ac ?_))))
   refine Bb h (fun h => ?_) fun h => ?_
   ·refine wq rfl (qe rfl ?_)
    obtain rfl := sj h
    refine Af (sm [] [(4, iD ((-1)))] [] rfl rfl) (As ?_)
    exact ⟨⟨[_], tm, rfl⟩, tv⟩
   ·refine Ak (wp rfl (qw 2 rfl (FW rfl (Ac ?_))))
    refine Bb h (fun h => ?_) fun h => ?_
    ·refine wq rfl (qe rfl ?_)
     obtain rfl := sj h
     refine Af (sm [] [(4, iD 1)] [] rfl rfl) (As ?_)
     exact ⟨⟨[_], tm, rfl⟩, tv⟩
    ·refine Ak (wq rfl (qe rfl ?_))
     obtain rfl := sj h
     refine Af (sm [] [(4, iD 0)] [] rfl rfl) (As ?_)
     exact ⟨⟨[_], tm, rfl⟩, tv⟩
theorem HV (N : Nat) (p0 : List Int) (p1 : List Int) (r : Int) (h : Cr N p0 p1 = some r) : Ar uS 93 [pD (.sl (p0.map CF)), pD (.sl (p1.map CF))] [] (iD r) := by
 unfold Cr at h
 refine cw (n := 36) (rs := [.tmp 4]) Tryz.func93 fun w0 S0 => ?_
 refine wq rfl (qa rfl (Ac (wp rfl (qm rfl (AL Df rfl (qm rfl (Ac ?_)))))))
 refine AH (L := Bz N p0 p1) h (fun v1 => mk [(0, pD (.sl (p0.map CF))), (1, pD (.sl (p1.map CF))), (9, pD (.sl (p0.map CF))), (10, iD ((p0.length : Int))), (11, iD v1)] []) (fun v2 => mk [(0, pD (.sl (p0.map CF))), (1, pD (.sl (p1.map CF)))] []) (fun _ _ => rfl) (sm [] _ _ rfl rfl) (fun j1 n1 v1 h => ?_) (fun v2 s h hs => ?_)
 ·unfold Bz at h
  refine wq rfl (AV rfl (Ac (AS ?_)))
  refine Bb h (fun h => ?_) fun h => ?_
  ·refine Ak (AS (AO (wq rfl (qm rfl ?_))))
   refine B3 h fun v4 a4 b4 h => qi Df FR a4 (Ag b4) rfl (qk Ks rfl (qa rfl (qa rfl (Ac (wp rfl (qw 2 rfl (AL Df rfl (Fb rfl (Ac ?_)))))))))
   refine Bb h (fun h => ?_) fun h => ?_
   ·refine wq rfl (qe rfl ?_)
    obtain rfl := sj h
    refine Af (sm [] [(4, iD 1)] [] rfl rfl) (As ?_)
    exact ⟨⟨[_], tm, rfl⟩, tv⟩
   ·refine Ak (wq rfl (qw 2 rfl ?_))
    refine B3 h fun v6 a6 b6 h => qi Df FR a6 (Ag b6) rfl (qk Ks rfl (qa rfl (Ac (wq rfl (qw 2 rfl ?_)))))
    refine BV h fun v7 a7 h => Aw [] (Kz N v4 v6 v7 a7) ZM rfl (qa rfl (Ac (wq rfl (qm rfl (Ci rfl (Ac ?_))))))
    refine Bb h (fun h => ?_) fun h => ?_
    ·refine wq rfl (qm rfl (qe rfl ?_))
     obtain rfl := sj h
     refine Af (sm [] [(4, iD v7)] [] rfl rfl) (As ?_)
     exact ⟨⟨[_], tm, rfl⟩, tv⟩
    ·refine Ak (Ah Ax rfl (A4 rfl (qm rfl (Ac ?_))))
     exact sn [] h
  ·refine AT ?_
   exact sn [] h
 ·refine Af hs (wp rfl (qm rfl (AL Df rfl (qm rfl (AL Df rfl (AV rfl (Ac ?_)))))))
  refine Bb h (fun h => ?_) fun h => ?_
  ·refine wq rfl (qe rfl ?_)
   obtain rfl := sj h
   refine Af (sm [] [(4, iD ((-1)))] [] rfl rfl) (As ?_)
   exact ⟨⟨[_], tm, rfl⟩, tv⟩
  ·refine Ak (wq rfl (qe rfl ?_))
   obtain rfl := sj h
   refine Af (sm [] [(4, iD 0)] [] rfl rfl) (As ?_)
   exact ⟨⟨[_], tm, rfl⟩, tv⟩
theorem L8 (N : Nat) (p0 : List Int) (r : Int) (h : Gm N p0 = some r) : Ar uS 61 [pD (.sl (p0.map Ao))] [] (iD r) := by
 unfold Gm at h
 refine cw (n := 18) (rs := [.tmp 2]) Tryz.func61 fun w0 S0 => ?_
 refine wq rfl (qa rfl (Ac (wq rfl (qa rfl (Ac (wp rfl (qm rfl (AL Ay rfl (qm rfl (Ac ?_))))))))))
 refine AH (L := Ff N p0) h (fun v1 => mk [(3, iD 0), (6, pD (.sl (p0.map Ao))), (7, iD ((p0.length : Int))), (8, iD v1)] []) (fun v2 => mk [(3, iD 0)] []) (fun _ _ => rfl) (sm [] _ _ rfl rfl) (fun j1 n1 v1 h => ?_) (fun v2 s h hs => ?_)
 ·unfold Ff at h
  refine wq rfl (AV rfl (Ac (AS ?_)))
  refine Bb h (fun h => ?_) fun h => ?_
  ·refine Ak (AS (AO (wq rfl ?_)))
   refine B3 h fun v4 a4 b4 h => qi Ay Do a4 (Ag b4) rfl (qk Cl rfl (qa rfl (Ac (wq rfl (qw 2 rfl (Ci rfl (Ac ?_)))))))
   refine Bb h (fun h => ?_) fun h => ?_
   ·refine wq rfl (qm rfl (qe rfl ?_))
    obtain rfl := sj h
    refine Af (sm [] [(2, iD v4)] [] rfl rfl) (As ?_)
    exact ⟨⟨[_], tm, rfl⟩, tv⟩
   ·refine Ak (Ah Ax rfl (A4 rfl (qm rfl (Ac ?_))))
    exact sn [] h
  ·refine AT ?_
   exact sn [] h
 ·refine Af hs (wq rfl (qm rfl (qe rfl ?_)))
  obtain rfl := sj h
  refine Af (sm [] [(2, iD 0)] [] rfl rfl) (As ?_)
  exact ⟨⟨[_], tm, rfl⟩, tv⟩
theorem JL (N : Nat) (p0 : Aa) (p1 : Aa) (r : Int) (h : CD N p0 p1 = some r) : Ar uS 46 [.e (.agg (AA p0)), .e (.agg (AA p1))] [] (iD r) := by
 unfold CD at h
 refine cw (n := 22) (rs := [.tmp 4]) Tryz.func46 fun w0 S0 => ?_
 refine wq rfl (qb rfl (qb rfl (qa rfl (Ac (wq rfl (qf Ct rfl (ql A7 rfl (qf Ct rfl (ql A7 rfl ?_)))))))))
 refine BV h fun v1 a1 h => Aw [] (G4 N p0.fd p1.fd v1 a1) Zs rfl (qf Bo rfl (ql A7 rfl (qf Bo rfl (ql A7 rfl ?_))))
 refine BV h fun v2 a2 h => Aw [] (G4 N p0.fa p1.fa v2 a2) Zs rfl (qf Cx rfl (ql GU rfl (qf Cx rfl (ql GU rfl ?_))))
 refine BV h fun v3 a3 h => Aw [] (HV N p0.fc p1.fc v3 a3) ah rfl (DF Ay Do Kq rfl ?_)
 refine BV h fun v4 a4 h => CP [] [20] (L8 N (([v1, v2, v3] : List Int)) v4 a4) Zk BA rfl (qa rfl (AM (by kernel_rfl) ?_))
 obtain rfl := sj h
 refine Af (sm [] [(4, iD v4)] [] rfl rfl) (As ?_)
 exact ⟨⟨[_], tm, rfl⟩, tv⟩
theorem OO (N : Nat) (p0 : Ab) (r : (List Aa) × Int) (h : IC N p0 = some r) : Ar uS 40 [.e (.agg (Ae p0))] [(3, r.1.map Al)] (.tup [.one (.own 0), .one (iC r.2)]) := by
 unfold IC at h
 refine cw (n := 73) (rs := [.tmp 2, .tmp 3]) Tryz.func40 fun w0 S0 => ?_
 refine wq rfl (qb rfl (qa rfl (qa rfl (Ac (wq rfl (qL Db CM rfl ?_))))))
 refine BV h fun v1 a1 h => Aw [2001, 2002, 2003] (O4 N p0 v1 a1) aP rfl (qm rfl (qx rfl (qx rfl (qx rfl (qz B1 rfl (qs Az rfl (qa rfl (qa rfl (Ac (AS ?_))))))))))
 refine AR h (fun v2 => mk [(1, oD (.ptr 1 0)), (4, oD (.ptr 4 0)), (6, iD v1.2.2), (25, bD v2)] [(1, .box (Ae p0)), (4, .box [.own 2004, .own 2005, .own 2006]), (2004, .vec 1 (v1.1.fd.map Ao)), (2005, .vec 1 (v1.1.fa.map Ao)), (2006, .vec 1 (v1.1.fc.map CF))]) (fun j2 h => ?_) (fun v2 h => ?_)
 ·refine Ah Ax rfl (qm rfl (Ci rfl (qm rfl ?_)))
  refine Eh 22 h rfl (fun h => ?_) fun h => ?_
  ·refine qw 2 rfl (qp rfl (Ac ?_))
   exact sn [(2004, 2001), (2005, 2002), (2006, 2003)] h
  ·refine qm rfl (Cm rfl (qp rfl (Ac ?_)))
   exact sn [(2004, 2001), (2005, 2002), (2006, 2003)] h
 ·refine Bb h (fun h => ?_) fun h => ?_
  ·refine wq rfl (qm rfl (qa rfl (qe rfl ?_)))
   obtain rfl := sj h
   refine Af ((Bf 2 2007 3 rfl rfl rfl).trans (sm [(1000, 2007)] [(2, oD (.own 1000)), (3, iD v1.2.2)] [(1000, .vec 3 ((([] : List Aa)).map Al))] rfl rfl)) (As ?_)
   exact ⟨⟨[_, _], ⟨.tmp _ _ rfl, tm⟩, rfl⟩, ⟨rfl, tv⟩⟩
  ·refine Ak (wq rfl (qL AZ Az rfl (CX (AU 2004 _ _ rfl rfl) (CX (AU 2005 _ _ rfl rfl) (CX (AU 2006 _ _ rfl rfl) (DF A0 Az B1 rfl (qa rfl (Ac (wq rfl ?_)))))))))
   refine Uf (.p rfl) rfl ?_
   refine qL AZ Az rfl ?_
   refine BV h fun v5 a5 h => Aw [] (KC N v1.1 v5 a5) Yv rfl ?_
   refine Rw (kv := Value.string) (vt := tB) (m := ([] : List (ByteArray × Bool))) (k := v5) (v := true) rfl (.inr rfl) rfl rfl rfl rfl (MV QH X7) rfl ?_
   refine qm rfl (qa rfl (Ac (wp rfl (qe rfl ?_))))
   refine AH (L := Gk N p0) h (fun v6 => mk [(1, oD (.ptr 1 0)), (7, oD (.own 2008)), (8, oD (.mref 2009)), (9, iD v6.2.2)] [(1, .box (Ae p0)), (2008, .vec 3 (v6.1.map Al)), (2009, .mp (I6 Value.string tB v6.2.1))]) (fun v7 => mk [(7, oD (.own 2010))] [(2010, .vec 3 (v7.map Al))]) (fun _ _ => rfl) (sm [(2008, 28), (2009, 29)] _ _ rfl rfl) (fun j6 n6 v6 h => ?_) (fun v7 s h hs => ?_)
   ·unfold Gk at h
    refine wp rfl (qw 2 rfl (D1 A0 rfl (AV rfl (Ac ?_))))
    refine Bb h (fun h => ?_) fun h => ?_
    ·refine Ak (AS (AO (wq rfl (qL Db CM rfl (qw 2 rfl ?_)))))
     refine B3 h fun v9 a9 b9 h => qI A0 Az a9 (Ag b9) rfl (qJ AZ Az (Ag b9) rfl ?_)
     refine BV h fun v10 a10 h => Aw [2011, 2012] (QT N p0 v9 v10 a10) az rfl (qm rfl (qx rfl (qx rfl (qa rfl (qa rfl (AM (by kernel_rfl) (wp rfl (qm rfl (D1 A0 rfl (qm rfl (Ac ?_)))))))))))
     refine AH (L := FT N v10) h (fun v11 => mk [(1, oD (.ptr 1 0)), (7, oD (.own 2013)), (8, oD (.mref 2014)), (9, iD v6.2.2), (48, oD (.own 2015)), (49, iD ((v10.2.length : Int))), (50, iD v11.2.2)] [(1, .box (Ae p0)), (2013, .vec 3 (v11.1.map Al)), (2014, .mp (I6 Value.string tB v11.2.1)), (2015, .vec 3 (v10.2.map Al))]) (fun v12 => mk [(1, oD (.ptr 1 0)), (7, oD (.own 2016)), (8, oD (.mref 2017)), (9, iD v6.2.2)] [(1, .box (Ae p0)), (2016, .vec 3 (v12.1.map Al)), (2017, .mp (I6 Value.string tB v12.2))]) (fun _ _ => rfl) (sm [(2013, 2008), (2014, 2009), (2015, 2012)] _ _ rfl rfl) (fun j11 n11 v11 h => ?_) (fun v12 s h hs => ?_)
     ·unfold FT at h
      refine wq rfl (AV rfl (Ac (AS ?_)))
      refine Bb h (fun h => ?_) fun h => ?_
      ·refine Ak ?_
       refine AR h (fun v14 => mk [(1, oD (.ptr 1 0)), (7, oD (.own 2018)), (8, oD (.mref 2019)), (9, iD v6.2.2), (48, oD (.own 2020)), (49, iD ((v10.2.length : Int))), (50, iD v11.2.2)] [(1, .box (Ae p0)), (2018, .vec 3 (v14.1.map Al)), (2019, .mp (I6 Value.string tB v14.2)), (2020, .vec 3 (v10.2.map Al))]) (fun j14 h => ?_) (fun v14 h => ?_)
       ·refine AO (wq rfl ?_)
        refine B3 h fun v15 a15 b15 h => qI A0 Az a15 (Ag b15) rfl (qJ AZ Az (Ag b15) rfl (qz B1 rfl (qs Az rfl (Ac (wq rfl (qm rfl (qL AZ Az rfl ?_)))))))
        refine BV h fun v16 a16 h => Aw [] (KC N v15 v16 a16) Yv rfl ?_
        refine Vl (kv := Value.string) (vt := tB) (m := v11.2.1) (dv := false) (.p rfl) rfl rfl rfl (MV QH X7) (by rw [QH]; rfl) WN rfl rfl rfl ?_
        refine Cm rfl (Ac ?_)
        refine Bb h (fun h => ?_) fun h => ?_
        ·refine wq rfl (qm rfl (qL AZ Az rfl ?_))
         refine BV h fun v18 a18 h => Aw [] (KC N v15 v18 a18) Yv rfl ?_
         refine Rw (kv := Value.string) (vt := tB) (m := v11.2.1) (k := v18) (v := true) rfl (.inl rfl) rfl rfl rfl rfl (MV QH X7) rfl ?_
         refine Ac (Ah Ax rfl (qm rfl (qL AZ Az rfl (DF A0 Az B1 rfl ?_))))
         refine F4 h fun c19 h => Dp (f := Al) A0 A0 Az Lp B1 c19 rfl (qe rfl ?_)
         exact sn [(2018, 65), (2019, 2014), (2020, 2015)] h
        ·refine Ak ?_
         exact sn [(2018, 2013), (2019, 2014), (2020, 2015)] h
       ·refine Ah Ax rfl (A4 rfl (qm rfl (Ac ?_)))
        exact sn [(2013, 2018), (2014, 2019), (2015, 2020)] h
      ·refine AT ?_
       exact sn [(2016, 2013), (2017, 2014)] h
     ·refine Af hs (wq rfl (qm rfl (D1 A0 rfl (FW rfl (Ac ?_)))))
      refine Bb h (fun h => ?_) fun h => ?_
      ·refine wq rfl (qa rfl (qe rfl ?_))
       obtain rfl := sj h
       refine Af ((Bf 2 2021 3 rfl rfl rfl).trans (sm [(1000, 2021)] [(2, oD (.own 1000)), (3, iD 3)] [(1000, .vec 3 ((([] : List Aa)).map Al))] rfl rfl)) (As ?_)
       exact ⟨⟨[_, _], ⟨.tmp _ _ rfl, tm⟩, rfl⟩, ⟨rfl, tv⟩⟩
      ·refine Ak (Ah Ax rfl (qm rfl (A4 rfl (qe rfl ?_))))
       exact sn [(2008, 2016), (2009, 2017)] h
    ·refine AT ?_
     exact sn [(2010, 2008)] h
   ·refine Af hs (wq rfl (qm rfl ?_))
    refine BV h fun v21 a21 h => JD (ds0 := [_, _]) [2010] [] [true] (DS.weak (ds' := [_, oD (.fnc 46)]) (HL N v7 ((fun (x : Aa × Aa) => CD N x.1 x.2)) v21 a21) ⟨(fun _ _ _ hh => hh), (fun _ _ _ hh => RQ Yl (fun ar t ht => by obtain ⟨x, r, rfl, hq, rfl⟩ := GI ht; exact JL N x.1 x.2 r hq) hh), tv⟩) (.p rfl) af rfl ⟨rfl, rfl, tv⟩ rfl rfl (by decide) ⟨rfl, tv⟩ rfl (F7 rfl) tv ⟨(fun h => by cases h), tv⟩ rfl rfl rfl ?_
    refine Ac (wq rfl (qm rfl (qa rfl (qe rfl ?_))))
    obtain rfl := sj h
    refine Af (sm [(1000, 2010)] [(2, oD (.own 1000)), (3, iD 0)] [(1000, .vec 3 (v21.map Al))] rfl rfl) (As ?_)
    exact ⟨⟨[_, _], ⟨.tmp _ _ rfl, tm⟩, rfl⟩, ⟨rfl, tv⟩⟩
theorem Km (N : Nat) (p0 : List Int) (p1 : List Int) (r : Bool) (h : Ec N p0 p1 = some r) : Ar uS 87 [pD (.sl (p0.map Ao)), pD (.sl (p1.map Ao))] [] (bD r) := by
 unfold Ec at h
 refine cw (n := 26) (rs := [.tmp 4]) Tryz.func87 fun w0 S0 => ?_
 refine wq rfl (qa rfl (Ac (wp rfl (qm rfl (AL Ay rfl (qm rfl (AL Ay rfl (Ci rfl (Ac ?_)))))))))
 refine Bb h (fun h => ?_) fun h => ?_
 ·refine wq rfl (qe rfl ?_)
  obtain rfl := sj h
  refine Af (sm [] [(4, bD false)] [] rfl rfl) (As ?_)
  exact ⟨⟨[_], tm, rfl⟩, tv⟩
 ·refine Ak (wp rfl (qm rfl (AL Ay rfl (qm rfl (Ac ?_)))))
  refine AH (L := Ck N p0 p1) h (fun v2 => mk [(0, pD (.sl (p0.map Ao))), (1, pD (.sl (p1.map Ao))), (12, iD ((p0.length : Int))), (13, iD v2)] []) (fun v3 => mk [] []) (fun _ _ => rfl) (sm [] _ _ rfl rfl) (fun j2 n2 v2 h => ?_) (fun v3 s h hs => ?_)
  ·unfold Ck at h
   refine wq rfl (AV rfl (Ac (AS ?_)))
   refine Bb h (fun h => ?_) fun h => ?_
   ·refine Ak (AS (AO (wq rfl (qm rfl (qa rfl (Ac (wq rfl (qw 2 rfl ?_))))))))
    refine B3 h fun v5 a5 b5 h => qi Ay Do a5 (Ag b5) rfl (qk Cl rfl (qw 2 rfl ?_))
    refine B3 h fun v6 a6 b6 h => qi Ay Do a6 (Ag b6) rfl (qk Cl rfl (Ci rfl (AM (by kernel_rfl) ?_)))
    refine Bb h (fun h => ?_) fun h => ?_
    ·refine wq rfl (qe rfl ?_)
     obtain rfl := sj h
     refine Af (sm [] [(4, bD false)] [] rfl rfl) (As ?_)
     exact ⟨⟨[_], tm, rfl⟩, tv⟩
    ·refine Ak (Ah Ax rfl (A4 rfl (qm rfl (Ac ?_))))
     exact sn [] h
   ·refine AT ?_
    exact sn [] h
  ·refine Af hs (wq rfl (qe rfl ?_))
   obtain rfl := sj h
   refine Af (sm [] [(4, bD true)] [] rfl rfl) (As ?_)
   exact ⟨⟨[_], tm, rfl⟩, tv⟩
theorem Je (N : Nat) (p0 : List Int) (p1 : Int → Option Bool) (r : Int) (h : Ef N p0 p1 = some r) : Ar uS 119 [pD (.sl (p0.map Ao)), oD (.clo (HT (M1 false Ao) tB p1))] [] (iD r) := by
 unfold Ef at h
 refine cw (n := 19) (rs := [.tmp 4]) Tryz.func119 fun w0 S0 => ?_
 refine wq rfl (qa rfl (Ac (wp rfl (qm rfl (AL Ay rfl (qm rfl (Ac ?_)))))))
 refine AH (L := Bk N p0 p1) h (fun v1 => mk [(0, pD (.sl (p0.map Ao))), (1, oD (.clo (HT (M1 false Ao) tB p1))), (7, iD ((p0.length : Int))), (8, iD v1)] []) (fun v2 => mk [] []) (fun _ _ => rfl) (sm [] _ _ rfl rfl) (fun j1 n1 v1 h => ?_) (fun v2 s h hs => ?_)
 ·unfold Bk at h
  refine wq rfl (AV rfl (Ac (AS ?_)))
  refine Bb h (fun h => ?_) fun h => ?_
  ·refine Ak (AS (AO (wq rfl (qm rfl (qa rfl (Ac (wq rfl (qw 3 rfl ?_))))))))
   refine B3 h fun v4 a4 b4 h => qi Ay Do a4 (Ag b4) rfl (qk Cl rfl ?_)
   refine BV h fun v5 a5 h => Kp (ds0 := [_]) (ar := (M1 false Ao) v4) (.p rfl) rfl rfl ⟨rfl, tv⟩ rfl rfl rfl (JC (Mx _ _ SD) a5) ?_
   refine Ac ?_
   refine Bb h (fun h => ?_) fun h => ?_
   ·refine wq rfl (qm rfl (qe rfl ?_))
    obtain rfl := sj h
    refine Af (sm [] [(4, iD v1)] [] rfl rfl) (As ?_)
    exact ⟨⟨[_], tm, rfl⟩, tv⟩
   ·refine Ak (Ah Ax rfl (A4 rfl (qm rfl (Ac ?_))))
    exact sn [] h
  ·refine AT ?_
   exact sn [] h
 ·refine Af hs (wq rfl (qe rfl ?_))
  obtain rfl := sj h
  refine Af (sm [] [(4, iD ((-1)))] [] rfl rfl) (As ?_)
  exact ⟨⟨[_], tm, rfl⟩, tv⟩
theorem Is (N : Nat) (p0 : List Int) (p1 : Int → Option Bool) (r : Bool) (h : CS N p0 p1 = some r) : Ar uS 88 [pD (.sl (p0.map Ao)), oD (.clo (HT (M1 false Ao) tB p1))] [] (bD r) := by
 unfold CS at h
 refine cw (n := 9) (rs := [.tmp 4]) Tryz.func88 fun w0 S0 => ?_
 refine wq rfl (qa rfl (Ac (wq rfl (qw 2 rfl ?_))))
 refine BV h fun v1 a1 h => Aw [] (Je N p0 p1 v1 a1) Zb rfl (Fb rfl (qe rfl ?_))
 obtain rfl := sj h
 refine Af (sm [] [(4, bD ((decide (0 ≤ v1))))] [] rfl rfl) (As ?_)
 exact ⟨⟨[_], tm, rfl⟩, tv⟩
theorem Qx (N : Nat) (p0 : Int) (r : Bool) (h : Hf N p0 = some r) : Ar uS 89 [iD p0] [] (bD r) := by
 unfold Hf at h
 refine cw (n := 5) (rs := [.tmp 2]) Tryz.func89 fun w0 S0 => ?_
 refine wq rfl (qa rfl (Ac (wq rfl (qm rfl (Fb rfl (qe rfl ?_))))))
 obtain rfl := sj h
 refine Af (sm [] [(2, bD ((decide (0 ≤ p0))))] [] rfl rfl) (As ?_)
 exact ⟨⟨[_], tm, rfl⟩, tv⟩
theorem Oz (N : Nat) (p0 : Ab) (p1 : Aa) (r : Bool) (h : HH N p0 p1 = some r) : Ar uS 42 [.e (.agg (Ae p0)), .e (.agg (AA p1))] [] (bD r) := by
 unfold HH at h
 refine cw (n := 22) (rs := [.tmp 4]) Tryz.func42 fun w0 S0 => ?_
 refine wq rfl (qb rfl (qb rfl (qe rfl ?_)))
 refine AR h (fun v1 => mk [(4, bD v1)] []) (fun j1 h => ?_) (fun v1 h => ?_)
 ·refine Ah Ax rfl (qL Db CM rfl (qL AZ Az rfl ?_))
  refine BV h fun v2 a2 h => Aw [] (Il N p0 p1 v2 a2) Uu rfl (BY rfl (qm rfl ?_))
  refine Eh 9 h rfl (fun h => ?_) fun h => ?_
  ·refine qf Ct rfl (ql A7 rfl (qf Ig rfl (ql A7 rfl ?_)))
   refine BV h fun v4 a4 h => Aw [] (Km N p1.fd p0.fj v4 a4) ae rfl (qp rfl (qm rfl ?_))
   refine Eh 16 h rfl (fun h => ?_) fun h => ?_
   ·refine qf Bo rfl (ql A7 rfl ?_)
    refine BV h fun v6 a6 h => Aw [] (Ar.weak (ds' := [pD (.sl (p1.fa.map Ao)), oD (.fnc 89)]) (Is N p1.fa ((fun (x : Int) => Hf N x)) v6 a6) ⟨(fun _ _ _ hh => hh), (fun _ _ _ hh => NN aI (fun ar t ht => by obtain ⟨x, r, rfl, hq, rfl⟩ := GI ht; exact Qx N x r hq) hh), tv⟩) bu rfl ?_
    refine Cm rfl (qp rfl (qe rfl ?_))
    exact sn [] h
   ·refine qw 4 rfl (qp rfl (qe rfl ?_))
    exact sn [] h
  ·refine qw 5 rfl (qp rfl (qw 5 rfl (qp rfl (qe rfl ?_))))
   exact sn [] h
 ·obtain rfl := sj h
  refine Af (sm [] [(4, bD v1)] [] rfl rfl) (As ?_)
  exact ⟨⟨[_], tm, rfl⟩, tv⟩
theorem MM (N : Nat) (p0 : Aa) (p1 : List Int) (p2 : List Int) (p3 : List Int) (p4 : List AC) (r : Bool) (h : FE N p0 p1 p2 p3 p4 = some r) : Ar uS 41 [.e (.agg (AA p0)), oD (.rop [.sl (p1.map Ao), .sl (p2.map Ao), .sl (p3.map Ao), .sl (p4.map Bh)])] [] (bD r) := by
 unfold FE at h
 refine cw (n := 7) (rs := [.tmp 3]) Tryz.func41 fun w0 S0 => ?_
 refine wq rfl (qb rfl (qa rfl (Ac (wq rfl (qK Db CM rfl (qL AZ Az rfl ?_))))))
 refine BV h fun v1 a1 h => Aw [] (Oz N ((Ab.mk p1 p2 p3 p4)) p0 v1 a1) ZO rfl (qe rfl ?_)
 obtain rfl := sj h
 refine Af (sm [] [(3, bD v1)] [] rfl rfl) (As ?_)
 exact ⟨⟨[_], tm, rfl⟩, tv⟩
theorem Hw (N : Nat) (p0 : List Aa) (p1 : Aa → Option Bool) (r : Int) (h : CW N p0 p1 = some r) : Ar uS 75 [pD (.sl (p0.map Al)), oD (.clo (HT (M1 true Al) tB p1))] [] (iD r) := by
 unfold CW at h
 refine cw (n := 19) (rs := [.tmp 4]) Tryz.func75 fun w0 S0 => ?_
 refine wq rfl (qa rfl (Ac (wp rfl (qm rfl (AL A0 rfl (qm rfl (Ac ?_)))))))
 refine AH (L := A9 N p0 p1) h (fun v1 => mk [(0, pD (.sl (p0.map Al))), (1, oD (.clo (HT (M1 true Al) tB p1))), (7, iD ((p0.length : Int))), (8, iD v1)] []) (fun v2 => mk [] []) (fun _ _ => rfl) (sm [] _ _ rfl rfl) (fun j1 n1 v1 h => ?_) (fun v2 s h hs => ?_)
 ·unfold A9 at h
  refine wq rfl (AV rfl (Ac (AS ?_)))
  refine Bb h (fun h => ?_) fun h => ?_
  ·refine Ak (AS (AO (wq rfl (qm rfl (qa rfl (Ac (wq rfl (qw 3 rfl ?_))))))))
   refine B3 h fun v4 a4 b4 h => qi A0 Az a4 (Ag b4) rfl (qK AZ Az rfl ?_)
   refine BV h fun v5 a5 h => Kp (ds0 := [_]) (ar := (M1 true Al) v4) (.p rfl) rfl rfl ⟨rfl, tv⟩ rfl rfl rfl (JC (Mx _ _ IT) a5) ?_
   refine Ac ?_
   refine Bb h (fun h => ?_) fun h => ?_
   ·refine wq rfl (qm rfl (qe rfl ?_))
    obtain rfl := sj h
    refine Af (sm [] [(4, iD v1)] [] rfl rfl) (As ?_)
    exact ⟨⟨[_], tm, rfl⟩, tv⟩
   ·refine Ak (Ah Ax rfl (A4 rfl (qm rfl (Ac ?_))))
    exact sn [] h
  ·refine AT ?_
   exact sn [] h
 ·refine Af hs (wq rfl (qe rfl ?_))
  obtain rfl := sj h
  refine Af (sm [] [(4, iD ((-1)))] [] rfl rfl) (As ?_)
  exact ⟨⟨[_], tm, rfl⟩, tv⟩
theorem EY (N : Nat) (p0 : List Aa) (p1 : Aa → Option Bool) (r : Bool) (h : Bl N p0 p1 = some r) : Ar uS 30 [pD (.sl (p0.map Al)), oD (.clo (HT (M1 true Al) tB p1))] [] (bD r) := by
 unfold Bl at h
 refine cw (n := 9) (rs := [.tmp 4]) Tryz.func30 fun w0 S0 => ?_
 refine wq rfl (qa rfl (Ac (wq rfl (qw 2 rfl ?_))))
 refine BV h fun v1 a1 h => Aw [] (Hw N p0 p1 v1 a1) aV rfl (Fb rfl (qe rfl ?_))
 obtain rfl := sj h
 refine Af (sm [] [(4, bD ((decide (0 ≤ v1))))] [] rfl rfl) (As ?_)
 exact ⟨⟨[_], tm, rfl⟩, tv⟩
theorem N8 (N : Nat) (p0 : Ab) (r : (List Aa) × Int) (h : Iy N p0 = some r) : Ar uS 12 [.e (.agg (Ae p0))] [(3, r.1.map Al)] (.tup [.one (.own 0), .one (iC r.2)]) := by
 unfold Iy at h
 refine cw (n := 18) (rs := [.tmp 2, .tmp 3]) Tryz.func12 fun w0 S0 => ?_
 refine wq rfl (qb rfl (qa rfl (qa rfl (Ac (wq rfl (qL Db CM rfl ?_))))))
 refine BV h fun v1 a1 h => Aw [2001] (OO N p0 v1 a1) aK rfl (qm rfl (qx rfl (qx rfl (qa rfl (qa rfl (Ac (wp rfl (qm rfl (Ci rfl (Ac ?_))))))))))
 refine Bb h (fun h => ?_) fun h => ?_
 ·refine wq rfl (qm rfl (qa rfl (qe rfl ?_)))
  obtain rfl := sj h
  refine Af ((Bf 2 2002 3 rfl rfl rfl).trans (sm [(1000, 2002)] [(2, oD (.own 1000)), (3, iD v1.2)] [(1000, .vec 3 ((([] : List Aa)).map Al))] rfl rfl)) (As ?_)
  exact ⟨⟨[_, _], ⟨.tmp _ _ rfl, tm⟩, rfl⟩, ⟨rfl, tv⟩⟩
 ·refine Ak (wp rfl (qm rfl (CX (K0 1 [.sl (p0.fb.map Ao), .sl (p0.fi.map Ao), .sl (p0.fj.map Ao), .sl (p0.fe.map Bh)] rfl rfl) ?_)))
  refine Kj (capD := [_]) (HT (M1 true Al) tB ((fun (x : Aa) => FE N x p0.fb p0.fi p0.fj p0.fe))) (.p rfl) aC rfl ⟨rfl, tv⟩ rfl (fun ar t ht => by obtain ⟨x, r, rfl, hq, rfl⟩ := GI ht; exact MM N x p0.fb p0.fi p0.fj p0.fe r hq) ?_
  refine BV h fun v3 a3 h => CP [] [2001] (EY N v1.1 ((fun (x : Aa) => FE N x p0.fb p0.fi p0.fj p0.fe)) v3 a3) Zj BA rfl (Ac ?_)
  refine Bb h (fun h => ?_) fun h => ?_
  ·refine wq rfl (qa rfl (qe rfl ?_))
   obtain rfl := sj h
   refine Af ((Bf 2 2003 3 rfl rfl rfl).trans (sm [(1000, 2003)] [(2, oD (.own 1000)), (3, iD 15)] [(1000, .vec 3 ((([] : List Aa)).map Al))] rfl rfl)) (As ?_)
   exact ⟨⟨[_, _], ⟨.tmp _ _ rfl, tm⟩, rfl⟩, ⟨rfl, tv⟩⟩
  ·refine Ak (wq rfl (qm rfl (qa rfl (qe rfl ?_))))
   obtain rfl := sj h
   refine Af (sm [(1000, 2001)] [(2, oD (.own 1000)), (3, iD 0)] [(1000, .vec 3 (v1.1.map Al))] rfl rfl) (As ?_)
   exact ⟨⟨[_, _], ⟨.tmp _ _ rfl, tm⟩, rfl⟩, ⟨rfl, tv⟩⟩
theorem MK (N : Nat) (p0 : Ab) (p1 : Aa) (r : (List Cw) × Int) (h : H4 N p0 p1 = some r) : Ar uS 18 [.e (.agg (Ae p0)), .e (.agg (AA p1))] [(9, r.1.map D9)] (.tup [.one (.own 0), .one (iC r.2)]) := by
 unfold H4 at h
 refine cw (n := 56) (rs := [.tmp 4, .tmp 5]) Tryz.func18 fun w0 S0 => ?_
 refine wq rfl (qb rfl (qb rfl (qa rfl (qa rfl (Ac (wq rfl (qL Db CM rfl (qL AZ Az rfl ?_))))))))
 refine BV h fun v1 a1 h => Aw [2001] (I3 N p0 p1 v1 a1) Yu rfl (qm rfl (qx rfl (qx rfl (qa rfl (qa rfl (Ac (wp rfl (qm rfl (Ci rfl (Ac ?_))))))))))
 refine Bb h (fun h => ?_) fun h => ?_
 ·refine wq rfl (qm rfl (qa rfl (qe rfl ?_)))
  obtain rfl := sj h
  refine Af ((Bf 4 2002 9 rfl rfl rfl).trans (sm [(1000, 2002)] [(4, oD (.own 1000)), (5, iD v1.2)] [(1000, .vec 9 ((([] : List Cw)).map D9))] rfl rfl)) (As ?_)
  exact ⟨⟨[_, _], ⟨.tmp _ _ rfl, tm⟩, rfl⟩, ⟨rfl, tv⟩⟩
 ·refine Ak (wq rfl (qa rfl (Ac (wp rfl (qm rfl (D1 E8 rfl (qm rfl (Ac ?_))))))))
  refine AH (L := FD N p0 p1 v1) h (fun v3 => mk [(2, oD (.ptr 2 0)), (3, oD (.ptr 3 0)), (8, oD (.own 2003)), (25, oD (.own 2004)), (26, iD ((v1.1.length : Int))), (27, iD v3.2)] [(2, .box (Ae p0)), (3, .box (AA p1)), (2003, .vec 9 (v3.1.map D9)), (2004, .vec 3 (v1.1.map AP))]) (fun v4 => mk [(8, oD (.own 2005))] [(2005, .vec 9 (v4.map D9))]) (fun _ _ => rfl) ((Bf 8 2011 9 rfl rfl rfl).trans (sm [(2003, 2011), (2004, 2001)] _ _ rfl rfl)) (fun j3 n3 v3 h => ?_) (fun v4 s h hs => ?_)
  ·unfold FD at h
   refine wq rfl (AV rfl (Ac (AS ?_)))
   refine Bb h (fun h => ?_) fun h => ?_
   ·refine Ak ?_
    refine AR h (fun v6 => mk [(2, oD (.ptr 2 0)), (3, oD (.ptr 3 0)), (8, oD (.own 2006)), (25, oD (.own 2007)), (26, iD ((v1.1.length : Int))), (27, iD v3.2)] [(2, .box (Ae p0)), (3, .box (AA p1)), (2006, .vec 9 (v6.map D9)), (2007, .vec 3 (v1.1.map AP))]) (fun j6 h => ?_) (fun v6 h => ?_)
    ·refine AO (wq rfl ?_)
     refine B3 h fun v7 a7 b7 h => qI E8 E2 a7 (Ag b7) rfl (qJ IA E2 (Ag b7) rfl (qz JQ rfl (qs E2 rfl (Ac (wq rfl (qL Db CM rfl (qL AZ Az rfl (qL IA E2 rfl ?_))))))))
     refine BV h fun v8 a8 h => Aw [2008, 2009, 2010] (J9 N p0 p1 v7 v8 a8) Ya rfl (qm rfl (qx rfl (qx rfl (qz B1 rfl (qs Az rfl (qa rfl (Ac (wq rfl (qL Db CM rfl (qL AZ Az rfl (CX (AU 2008 _ _ rfl rfl) (CX (AU 2009 _ _ rfl rfl) (CX (AU 2010 _ _ rfl rfl) ?_)))))))))))))
     refine BV h fun v9 a9 h => Aw [] (Nl N p0 v8.1 v9 a9) ZZ rfl (qm rfl (qx rfl (qx rfl (qx rfl (qz B1 rfl (qz Jo rfl (qs Az rfl (qs Fi rfl (qa rfl (Ac (wq rfl (qm rfl (BY rfl (Ac ?_))))))))))))))
     refine Bb h (fun h => ?_) fun h => ?_
     ·refine Ah Ax rfl (qm rfl (qL IA E2 rfl (qL AZ Az rfl (qL KP Fi rfl (Br U5 bg rfl (DF Lw Rm U5 rfl ?_))))))
      refine F4 h fun c11 h => Dp (f := D9) Lw Lw Rm XF U5 c11 rfl (qe rfl ?_)
      exact sn [(2006, 53), (2007, 2004)] h
     ·refine Ak ?_
      exact sn [(2006, 2003), (2007, 2004)] h
    ·refine Ah Ax rfl (A4 rfl (qm rfl (Ac ?_)))
     exact sn [(2003, 2006), (2004, 2007)] h
   ·refine AT ?_
    exact sn [(2005, 2003)] h
  ·refine Af hs (wq rfl (qm rfl (qa rfl (qe rfl ?_))))
   obtain rfl := sj h
   refine Af (sm [(1000, 2005)] [(4, oD (.own 1000)), (5, iD 0)] [(1000, .vec 9 (v4.map D9))] rfl rfl) (As ?_)
   exact ⟨⟨[_, _], ⟨.tmp _ _ rfl, tm⟩, rfl⟩, ⟨rfl, tv⟩⟩
theorem Kw (N : Nat) (p0 : Ab) (p1 : List Aa) (r : (List Cw) × Int) (h : GP N p0 p1 = some r) : Ar uS 21 [.e (.agg (Ae p0)), pD (.sl (p1.map Al))] [(9, r.1.map D9)] (.tup [.one (.own 0), .one (iC r.2)]) := by
 unfold GP at h
 refine cw (n := 37) (rs := [.tmp 4, .tmp 5]) Tryz.func21 fun w0 S0 => ?_
 refine wq rfl (qb rfl (qa rfl (qa rfl (Ac (wp rfl (qL Db CM rfl ?_))))))
 refine BV h fun v1 a1 h => Aw [] (FA N p0 v1 a1) Wp rfl (qa rfl (Ac (wq rfl (qm rfl (Ci rfl (Ac ?_))))))
 refine Bb h (fun h => ?_) fun h => ?_
 ·refine wq rfl (qm rfl (qa rfl (qe rfl ?_)))
  obtain rfl := sj h
  refine Af ((Bf 4 2001 9 rfl rfl rfl).trans (sm [(1000, 2001)] [(4, oD (.own 1000)), (5, iD v1)] [(1000, .vec 9 ((([] : List Cw)).map D9))] rfl rfl)) (As ?_)
  exact ⟨⟨[_, _], ⟨.tmp _ _ rfl, tm⟩, rfl⟩, ⟨rfl, tv⟩⟩
 ·refine Ak (wq rfl (qa rfl (Ac (wp rfl (qm rfl (AL A0 rfl (qm rfl (Ac ?_))))))))
  refine AH (L := zFS N p0 p1) h (fun v3 => mk [(2, oD (.ptr 2 0)), (7, oD (.own 2002)), (17, pD (.sl (p1.map Al))), (18, iD ((p1.length : Int))), (19, iD v3.2)] [(2, .box (Ae p0)), (2002, .vec 9 (v3.1.map D9))]) (fun v4 => mk [(7, oD (.own 2003))] [(2003, .vec 9 (v4.map D9))]) (fun _ _ => rfl) ((Bf 7 2006 9 rfl rfl rfl).trans (sm [(2002, 2006)] _ _ rfl rfl)) (fun j3 n3 v3 h => ?_) (fun v4 s h hs => ?_)
  ·unfold zFS at h
   refine wq rfl (AV rfl (Ac (AS ?_)))
   refine Bb h (fun h => ?_) fun h => ?_
   ·refine Ak (AS (AO (wq rfl ?_)))
    refine B3 h fun v6 a6 b6 h => qi A0 Az a6 (Ag b6) rfl (qK AZ Az rfl (qz B1 rfl (qs Az rfl (Ac (wq rfl (qL Db CM rfl (qL AZ Az rfl ?_)))))))
    refine BV h fun v7 a7 h => Aw [2004] (MK N p0 v6 v7 a7) am rfl (qm rfl (qx rfl (qx rfl (qa rfl (qa rfl (Ac (wp rfl (qm rfl (Ci rfl (Ac ?_))))))))))
    refine Bb h (fun h => ?_) fun h => ?_
    ·refine wq rfl (qm rfl (qa rfl (qe rfl ?_)))
     obtain rfl := sj h
     refine Af ((Bf 4 2005 9 rfl rfl rfl).trans (sm [(1000, 2005)] [(4, oD (.own 1000)), (5, iD v7.2)] [(1000, .vec 9 ((([] : List Cw)).map D9))] rfl rfl)) (As ?_)
     exact ⟨⟨[_, _], ⟨.tmp _ _ rfl, tm⟩, rfl⟩, ⟨rfl, tv⟩⟩
    ·refine Ak (Ah Ax rfl (qw 2 rfl ?_))
     refine F4 h fun c9 h => Dp (f := D9) Lw Lw Rm XF U5 c9 rfl (qa rfl (Ac (Ah Ax rfl (A4 rfl (qm rfl (Ac ?_))))))
     exact sn [(2002, 34)] h
   ·refine AT ?_
    exact sn [(2003, 2002)] h
  ·refine Af hs (wq rfl (qm rfl (qa rfl (qe rfl ?_))))
   obtain rfl := sj h
   refine Af (sm [(1000, 2003)] [(4, oD (.own 1000)), (5, iD 0)] [(1000, .vec 9 (v4.map D9))] rfl rfl) (As ?_)
   exact ⟨⟨[_, _], ⟨.tmp _ _ rfl, tm⟩, rfl⟩, ⟨rfl, tv⟩⟩
def XO : Go.Shelf.Ren := ⟨fun | 6 => 59 | 14 => 104 | 15 => 105 | 20 => 132 | 21 => 133 | 22 => 134 | 23 => 135 | 24 => 136 | 25 => 137 | 26 => 138 | 27 => 139 | 28 => 140 | 29 => 141 | 46 => 161 | 47 => 162 | 48 => 163 | 49 => 164 | 50 => 165 | 57 => 171 | n => n, fun | 0 => 0 | 3 => 3 | 4 => 4 | 5 => 5 | 9 => 9 | 22 => 55 | 24 => 66 | 25 => 112 | 39 => 152 | 45 => 172 | 46 => 173 | 50 => 122 | 53 => 179 | 55 => 181 | 66 => 195 | 70 => 199 | 76 => 205 | 77 => 206 | n => n, fun n => n⟩
theorem Yx : SlLaysF0.n6 uS XO := { mixed := Ax, f6 := ⟨Tryz.f59.name, by decide, Tryz.func59.trans (congrArg some (by kernel_rfl))⟩, f14 := ⟨Tryz.f104.name, by decide, Tryz.func104.trans (congrArg some (by kernel_rfl))⟩, f15 := Tryz.func105.trans (congrArg some (by kernel_rfl)), f20 := ⟨Tryz.f132.name, by decide, Tryz.func132.trans (congrArg some (by kernel_rfl))⟩, f21 := ⟨Tryz.f133.name, by decide, Tryz.func133.trans (congrArg some (by kernel_rfl))⟩, f22 := ⟨Tryz.f134.name, by decide, Tryz.func134.trans (congrArg some (by kernel_rfl))⟩, f23 := ⟨Tryz.f135.name, by decide, Tryz.func135.trans (congrArg some (by kernel_rfl))⟩, f24 := ⟨Tryz.f136.name, by decide, Tryz.func136.trans (congrArg some (by kernel_rfl))⟩, f25 := ⟨Tryz.f137.name, by decide, Tryz.func137.trans (congrArg some (by kernel_rfl))⟩, f26 := ⟨Tryz.f138.name, by decide, Tryz.func138.trans (congrArg some (by kernel_rfl))⟩, f27 := ⟨Tryz.f139.name, by decide, Tryz.func139.trans (congrArg some (by kernel_rfl))⟩, f28 := Tryz.func140.trans (congrArg some (by kernel_rfl)), f29 := Tryz.func141.trans (congrArg some (by kernel_rfl)), f46 := ⟨Tryz.f161.name, by decide, Tryz.func161.trans (congrArg some (by kernel_rfl))⟩, f47 := Tryz.func162.trans (congrArg some (by kernel_rfl)), f48 := Tryz.func163.trans (congrArg some (by kernel_rfl)), f49 := ⟨Tryz.f164.name, by decide, Tryz.func164.trans (congrArg some (by kernel_rfl))⟩, f50 := ⟨Tryz.f165.name, by decide, Tryz.func165.trans (congrArg some (by kernel_rfl))⟩, f57 := ⟨Tryz.f171.name, by decide, Tryz.func171.trans (congrArg some (by kernel_rfl))⟩, t0 := Tryz.underlying0, a0 := Tryz.isAgg0, z0 := Tryz.sizeOf0, v0 := Tryz.zeroValue0, t3 := Tryz.underlying3, a3 := Tryz.isAgg3, z3 := Tryz.sizeOf3, v3 := Tryz.zeroValue3, t4 := Tryz.underlying4, a4 := Tryz.isAgg4, z4 := Tryz.sizeOf4, v4 := Tryz.zeroValue4, t5 := Tryz.underlying5, a5 := Tryz.isAgg5, z5 := Tryz.sizeOf5, v5 := Tryz.zeroValue5, t9 := Tryz.underlying9, a9 := Tryz.isAgg9, z9 := Tryz.sizeOf9, v9 := Tryz.zeroValue9, t22 := Tryz.underlying55, a22 := Tryz.isAgg55, z22 := Tryz.sizeOf55, v22 := Tryz.zeroValue55, t25 := Tryz.underlying112, a25 := Tryz.isAgg112, z25 := Tryz.sizeOf112, v25 := Tryz.zeroValue112, t39 := Tryz.underlying152, a39 := Tryz.isAgg152, z39 := Tryz.sizeOf152, v39 := Tryz.zeroValue152, t45 := Tryz.underlying172, a45 := Tryz.isAgg172, z45 := Tryz.sizeOf172, v45 := Tryz.zeroValue172, t46 := Tryz.underlying173, a46 := Tryz.isAgg173, z46 := Tryz.sizeOf173, v46 := Tryz.zeroValue173, t50 := Tryz.underlying122, a50 := Tryz.isAgg122, z50 := Tryz.sizeOf122, v50 := Tryz.zeroValue122, t53 := Tryz.underlying179, a53 := Tryz.isAgg179, z53 := Tryz.sizeOf179, v53 := Tryz.zeroValue179, t55 := Tryz.underlying181, a55 := Tryz.isAgg181, z55 := Tryz.sizeOf181, v55 := Tryz.zeroValue181, t66 := Tryz.underlying195, a66 := Tryz.isAgg195, z66 := Tryz.sizeOf195, v66 := Tryz.zeroValue195, t70 := Tryz.underlying199, a70 := Tryz.isAgg199, z70 := Tryz.sizeOf199, v70 := Tryz.zeroValue199, t76 := Tryz.underlying205, a76 := Tryz.isAgg205, z76 := Tryz.sizeOf205, v76 := Tryz.zeroValue205, t77 := Tryz.underlying206, a77 := Tryz.isAgg206, z77 := Tryz.sizeOf206, v77 := Tryz.zeroValue206 }
theorem F6 (N : Nat) (p0 : List Ad) (p1 : (Ad × Ad) → Option Int) (r : (List Ad)) (h : D4 N p0 p1 = some r) : DS uS 59 [oD (.own 90000), oD (.clo (HT (Uj true Aq true Aq) VG p1))] [(.vec 3 (p0.map Aq), .vec 3 (r.map Aq))] [] (.tup []) := SW Yx 3 (HC KP) (Dy Fi) OM (@Na) h
theorem LL (N : Nat) (p0 : Ad) (p1 : Ad) (r : Int) (h : FU N p0 p1 = some r) : Ar uS 60 [.e (.agg (IM p0)), .e (.agg (IM p1))] [] (iD r) := by
 unfold FU at h
 refine cw (n := 22) (rs := [.tmp 4]) Tryz.func60 fun w0 S0 => ?_
 refine wq rfl (qb rfl (qb rfl (qa rfl (Ac (wq rfl (qf S8 rfl (ql Cl rfl (qf S8 rfl (ql Cl rfl ?_)))))))))
 refine BV h fun v1 a1 h => Aw [] (Gs N p0.ft p1.ft v1 a1) Wu rfl (qf S6 rfl (ql Cl rfl (qf S6 rfl (ql Cl rfl ?_))))
 refine BV h fun v2 a2 h => Aw [] (Gs N p0.fu p1.fu v2 a2) Wu rfl (qf S3 rfl (ql Cl rfl (qf S3 rfl (ql Cl rfl ?_))))
 refine BV h fun v3 a3 h => Aw [] (Gs N p0.fv p1.fv v3 a3) Wu rfl (DF Ay Do Kq rfl ?_)
 refine BV h fun v4 a4 h => CP [] [20] (L8 N (([v1, v2, v3] : List Int)) v4 a4) Zk BA rfl (qa rfl (AM (by kernel_rfl) ?_))
 obtain rfl := sj h
 refine Af (sm [] [(4, iD v4)] [] rfl rfl) (As ?_)
 exact ⟨⟨[_], tm, rfl⟩, tv⟩
theorem Ge (N : Nat) (p0 : List Ad) (r : Nat × (List Ad)) (h : C0 N p0 = some r) : DS uS 63 [oD (.own 90000)] [(.vec 3 (p0.map Aq), .vec 3 (r.2.map Aq))] [] (oD (.view 90000 3 0 r.1)) := by
 unfold C0 at h
 refine FZ (n := 61) (rs := [.tmp 2]) Tryz.func63 rfl rfl rfl (IU rfl) (IU rfl) rfl rfl (IU rfl) rfl (IU rfl) fun w0 S0 GL => ?_
 refine Af (sm [] [(0, oD (.own 90000))] [(90000, .vec 3 (p0.map Aq))] rfl rfl) (wq rfl (qa rfl (Ac (wp rfl (qm rfl (D1 EH rfl (AV rfl (Ac ?_))))))))
 refine Bb h (fun h => ?_) fun h => ?_
 ·refine wq rfl (qm rfl (qe rfl ?_))
  obtain rfl := sj h
  refine Af ((NM Aq p0 2 90000 3 rfl rfl).trans (sm [] [(2, oD (.view 90000 3 0 p0.length))] [(90000, .vec 3 (p0.map Aq))] rfl rfl)) (As ?_)
  exact ⟨⟨[_], tm, rfl⟩, ⟨rfl, tv⟩, tv⟩
 ·refine Ak (wp rfl (qe rfl ?_))
  refine AH (L := BT N p0) h (fun v2 => mk [(0, oD (.own 90000)), (3, iD v2)] [(90000, .vec 3 (p0.map Aq))]) (fun v3 => mk [(0, oD (.own 90000))] [(90000, .vec 3 (p0.map Aq))]) (fun _ _ => rfl) (sm [] _ _ rfl rfl) (fun j2 n2 v2 h => ?_) (fun v3 s h hs => ?_)
  ·unfold BT at h
   refine wp rfl (qw 2 rfl (D1 EH rfl (AV rfl (Ac ?_))))
   refine Bb h (fun h => ?_) fun h => ?_
   ·refine Ak (AS (AO (wq rfl (qw 2 rfl ?_))))
    refine B3 h fun v5 a5 b5 h => qI EH Fi a5 (Ag b5) rfl (qJ KP Fi (Ag b5) rfl (qw 2 rfl (Lr rfl ?_)))
    refine B3 h fun v6 a6 b6 h => qI EH Fi a6 (Ag b6) rfl (qJ KP Fi (Ag b6) rfl ?_)
    refine Vn [.int .i64 v5.ft, .int .i64 v5.fu, .int .i64 v5.fv] [.int .i64 v6.ft, .int .i64 v6.fu, .int .i64 v6.fv] (.p rfl) rfl rfl Tb rfl ?_
    refine AM (by kernel_rfl) ?_
    refine Bb h (fun h => ?_) fun h => ?_
    ·refine wq rfl (qw 2 rfl ?_)
     obtain ⟨c8, h⟩ := ET h
     have w9 : ((v2).toNat) + ((p0.length - (v2).toNat)) ≤ p0.length := by have := c8.2.1; have := c8.2.2; omega
     refine Hb Aq p0 (.p rfl) rfl (G8 Aq _ _ p0) rfl EH Fi (.some _ _ _ _ c8.1) (.none _) ⟨rfl, tv⟩ tv c8.2.1 (by rw [uT]; exact c8.2.2) (uT _) rfl ?_
     refine qa rfl (Ac (wp rfl (qe rfl ?_)))
     refine AH (L := BL N p0 v2) h (fun v10 => mk [(0, oD (.own 90000)), (3, iD v10.2.1), (4, oD (.view 90000 3 ((v2).toNat) ((p0.length - (v2).toNat)))), (5, iD v10.2.2)] [(90000, .vec 3 (v10.1.map Aq))]) (fun v11 => mk [(0, oD (.own 90000)), (3, iD v11.2)] [(90000, .vec 3 (v11.1.map Aq))]) (fun _ _ => rfl) (sm [] _ _ rfl rfl) (fun j10 n10 v10 h => ?_) (fun v11 s h hs => ?_)
     ·unfold BL at h
      refine wp rfl (qw 2 rfl ?_)
      refine TA (.p rfl) rfl EH ?_
      refine AV rfl (Ac ?_)
      refine Bb h (fun h => ?_) fun h => ?_
      ·refine Ak ?_
       refine AR h (fun v13 => mk [(0, oD (.own 90000)), (3, iD v13.2), (4, oD (.view 90000 3 ((v2).toNat) ((p0.length - (v2).toNat)))), (5, iD v10.2.2)] [(90000, .vec 3 (v13.1.map Aq))]) (fun j13 h => ?_) (fun v13 h => ?_)
       ·refine AO (wq rfl (qw 2 rfl ?_))
        refine F4 h fun c15 h => B3 h fun v14 a14 b14 h => MT Aq v10.1 (.p rfl) rfl c15 rfl rfl EH Fi a14 (J5 b14).1 rfl ?_
        refine Mt (.p rfl) rfl KP Fi rfl (Ag (J5 b14).2) ?_
        refine qw 2 rfl (Lr rfl ?_)
        refine B3 h fun v16 a16 b16 h => MT Aq v10.1 (.p rfl) rfl c15 rfl rfl EH Fi a16 (J5 b16).1 rfl ?_
        refine Mt (.p rfl) rfl KP Fi rfl (Ag (J5 b16).2) ?_
        refine XH [.int .i64 v14.ft, .int .i64 v14.fu, .int .i64 v14.fv] [.int .i64 v16.ft, .int .i64 v16.fu, .int .i64 v16.fv] (.p rfl) rfl rfl Tb rfl ?_
        refine AM (by kernel_rfl) ?_
        refine Bb h (fun h => ?_) fun h => ?_
        ·refine wq rfl (qw 4 rfl ?_)
         refine B3 h fun v18 a18 b18 h => MT Aq v10.1 (.p rfl) rfl c15 rfl rfl EH Fi a18 (J5 b18).1 rfl ?_
         refine Mt (.p rfl) rfl KP Fi rfl (Ag (J5 b18).2) ?_
         refine B3 h fun v19 a19 b19 h => qI EH Fi a19 (Ag b19) rfl ?_
         refine Em rfl rfl rfl rfl (Ag b19) rfl Fi rfl (IU rfl) (Ei Aq v10.1 _ v18) ?_
         refine Ac (Ah Ax rfl (qm rfl (A4 rfl (qe rfl ?_))))
         exact sn [] h
        ·refine Ak ?_
         exact sn [] h
       ·refine Ah Ax rfl (qm rfl (A4 rfl (qe rfl ?_)))
        exact sn [] h
      ·refine AT ?_
       exact sn [] h
     ·refine Af hs (wq rfl (qw 2 rfl ?_))
      obtain ⟨c20, h⟩ := ET h
      have w21 : ((v11.2).toNat) + ((v11.1.length - (v11.2).toNat)) ≤ v11.1.length := by have := c20.2.1; have := c20.2.2; omega
      refine Hb Aq v11.1 (.p rfl) rfl (G8 Aq _ _ v11.1) rfl EH Fi (.some _ _ _ _ c20.1) (.none _) ⟨rfl, tv⟩ tv c20.2.1 (by rw [uT]; exact c20.2.2) (uT _) rfl ?_
      have w22 : (Gv v11.1 ((v11.2).toNat) (uY ((v11.1.length - (v11.2).toNat)) ((Ad.mk 0 0 0)))).length = v11.1.length := Gg (by rw [zF3]; exact w21)
      refine OH Aq v11.1 ((Ad.mk 0 0 0)) rfl rfl (IW Aq _ _ ((v11.2).toNat) ((v11.1.length - (v11.2).toNat)) v11.1 w21) rfl EH Jo rfl rfl rfl rfl ?_
      refine Ac (wq rfl (qw 2 rfl ?_))
      obtain ⟨c23, h⟩ := ET h
      have w24 : 0 + ((v11.2).toNat) ≤ (Gv v11.1 ((v11.2).toNat) (uY ((v11.1.length - (v11.2).toNat)) ((Ad.mk 0 0 0)))).length := by have := c23.2.1; have := c23.2.2; omega
      refine Hb Aq (Gv v11.1 ((v11.2).toNat) (uY ((v11.1.length - (v11.2).toNat)) ((Ad.mk 0 0 0)))) (.p rfl) rfl (G8 Aq _ _ (Gv v11.1 ((v11.2).toNat) (uY ((v11.1.length - (v11.2).toNat)) ((Ad.mk 0 0 0))))) rfl EH Fi (.none _) (.some _ _ _ _ c23.1) tv ⟨rfl, tv⟩ c23.2.1 (by rw [uT]; exact c23.2.2) (uT _) rfl ?_
      refine qa rfl (Ac ?_)
      obtain rfl := sj h
      refine Af (sm [] [(2, oD (.view 90000 3 0 ((v11.2).toNat)))] [(90000, .vec 3 ((Gv v11.1 ((v11.2).toNat) (uY ((v11.1.length - (v11.2).toNat)) ((Ad.mk 0 0 0)))).map Aq))] rfl rfl) (As ?_)
      exact ⟨⟨[_], tm, rfl⟩, ⟨rfl, tv⟩, tv⟩
    ·refine Ak (Ah Ax rfl (qm rfl (A4 rfl (qe rfl ?_))))
     exact sn [] h
   ·refine AT ?_
    exact sn [] h
  ·refine Af hs (wq rfl (qm rfl (qe rfl ?_)))
   obtain rfl := sj h
   refine Af ((NM Aq p0 2 90000 3 rfl rfl).trans (sm [] [(2, oD (.view 90000 3 0 p0.length))] [(90000, .vec 3 (p0.map Aq))] rfl rfl)) (As ?_)
   exact ⟨⟨[_], tm, rfl⟩, ⟨rfl, tv⟩, tv⟩
theorem MY (N : Nat) (p0 : Ab) (p1 : List Aa) (r : (List Ad) × Int) (h : HU N p0 p1 = some r) : Ar uS 22 [.e (.agg (Ae p0)), pD (.sl (p1.map Al))] [(3, r.1.map Aq)] (.tup [.one (.own 0), .one (iC r.2)]) := by
 unfold HU at h
 refine cw (n := 36) (rs := [.tmp 4, .tmp 5]) Tryz.func22 fun w0 S0 => ?_
 refine wq rfl (qb rfl (qa rfl (qa rfl (Ac (wq rfl (qL Db CM rfl (qm rfl ?_)))))))
 refine BV h fun v1 a1 h => Aw [2001] (Kw N p0 p1 v1 a1) Zv rfl (qm rfl (qx rfl (qx rfl (qa rfl (qa rfl (Ac (wp rfl (qm rfl (Ci rfl (Ac ?_))))))))))
 refine Bb h (fun h => ?_) fun h => ?_
 ·refine wq rfl (qm rfl (qa rfl (qe rfl ?_)))
  obtain rfl := sj h
  refine Af ((Bf 4 2002 3 rfl rfl rfl).trans (sm [(1000, 2002)] [(4, oD (.own 1000)), (5, iD v1.2)] [(1000, .vec 3 ((([] : List Ad)).map Aq))] rfl rfl)) (As ?_)
  exact ⟨⟨[_, _], ⟨.tmp _ _ rfl, tm⟩, rfl⟩, ⟨rfl, tv⟩⟩
 ·refine Ak (wq rfl (qa rfl (Ac (wp rfl (qm rfl (D1 Lw rfl (qm rfl (Ac ?_))))))))
  refine AH (L := FB N v1) h (fun v3 => mk [(8, oD (.own 2003)), (20, oD (.own 2004)), (21, iD ((v1.1.length : Int))), (22, iD v3.2)] [(2003, .vec 3 (v3.1.map Aq)), (2004, .vec 9 (v1.1.map D9))]) (fun v4 => mk [(8, oD (.own 2005))] [(2005, .vec 3 (v4.map Aq))]) (fun _ _ => rfl) ((Bf 8 2006 3 rfl rfl rfl).trans (sm [(2003, 2006), (2004, 2001)] _ _ rfl rfl)) (fun j3 n3 v3 h => ?_) (fun v4 s h hs => ?_)
  ·unfold FB at h
   refine wq rfl (AV rfl (Ac (AS ?_)))
   refine Bb h (fun h => ?_) fun h => ?_
   ·refine Ak (AS (AO (wq rfl ?_)))
    refine B3 h fun v6 a6 b6 h => qI Lw Rm a6 (Ag b6) rfl (qJ aJ Rm (Ag b6) rfl (qz U5 rfl (qs Rm rfl (Ac (Ah Ax rfl (qm rfl (qf S5 rfl (qL KP Fi rfl (DF EH Fi Jo rfl ?_)))))))))
    refine F4 h fun c7 h => Dp (f := Aq) EH EH Fi Rj Jo c7 rfl (qa rfl (Ac (Ah Ax rfl (A4 rfl (qm rfl (Ac ?_))))))
    exact sn [(2003, 30)] h
   ·refine AT ?_
    exact sn [(2005, 2003)] h
  ·refine Af hs (wq rfl (qm rfl ?_))
   refine BV h fun v8 a8 h => JD (ds0 := [_, _]) [2005] [] [true] (DS.weak (ds' := [_, oD (.fnc 60)]) (F6 N v4 ((fun (x : Ad × Ad) => FU N x.1 x.2)) v8 a8) ⟨(fun _ _ _ hh => hh), (fun _ _ _ hh => RQ aW (fun ar t ht => by obtain ⟨x, r, rfl, hq, rfl⟩ := GI ht; exact LL N x.1 x.2 r hq) hh), tv⟩) (.p rfl) aX rfl ⟨rfl, rfl, tv⟩ rfl rfl (by decide) ⟨rfl, tv⟩ rfl (F7 rfl) tv ⟨(fun h => by cases h), tv⟩ rfl rfl rfl ?_
   refine Ac (wq rfl (qm rfl ?_))
   obtain ⟨v9, a9, h⟩ := bind_some h
   obtain ⟨c10, h⟩ := ET h
   have w11 : 0 + v9.1 ≤ v9.2.length := by rw [uT]; exact c10
   refine JD (ds0 := [_]) [2005] [] [true] (Ge N v8 v9 a9) (.p rfl) ay rfl ⟨rfl, tv⟩ rfl rfl (by decide) ⟨rfl, tv⟩ rfl (F7 rfl) tv ⟨(fun h => by cases h), tv⟩ rfl rfl rfl ?_
   refine CX (Sn Aq v9.2 35 2005 2007 3 v9.1 rfl rfl rfl rfl rfl c10) (qa rfl (qe rfl ?_))
   obtain rfl := sj h
   refine Af (sm [(1000, 2007)] [(4, oD (.own 1000)), (5, iD 0)] [(1000, .vec 3 ((v9.2.take v9.1).map Aq))] rfl rfl) (As ?_)
   exact ⟨⟨[_, _], ⟨.tmp _ _ rfl, tm⟩, rfl⟩, ⟨rfl, tv⟩⟩
theorem MJ (N : Nat) (p0 : Ab) (p1 : List Aa) (r : Int × Aa × Int) (h : HN N p0 p1 = some r) : Ar uS 25 [.e (.agg (Ae p0)), pD (.sl (p1.map Al))] [(1, r.2.1.fd.map Ao), (1, r.2.1.fa.map Ao), (1, r.2.1.fc.map CF)] (.tup [.one (iC r.1), .agg [.own 0, .own 1, .own 2], .one (iC r.2.2)]) := by
 unfold HN at h
 refine cw (n := 88) (rs := [.tmp 4, .cell 5 46, .tmp 6]) Tryz.func25 fun w0 S0 => ?_
 refine wq rfl (qb rfl (qa rfl (qz B1 rfl (qa rfl (Ac (wp rfl (qL Db CM rfl ?_)))))))
 refine BV h fun v1 a1 h => Aw [] (FA N p0 v1 a1) Wp rfl (qa rfl (Ac (wq rfl (qm rfl (Ci rfl (Ac ?_))))))
 refine Bb h (fun h => ?_) fun h => ?_
 ·refine wq rfl (Br B1 Hu rfl (qm rfl (qa rfl (qs Az rfl (qe rfl ?_)))))
  obtain rfl := sj h
  refine Af ((Av 5 0 2001 1 _ rfl rfl rfl rfl).trans ((Av 5 1 2002 1 _ rfl rfl rfl rfl).trans ((Av 5 2 2003 1 _ rfl rfl rfl rfl).trans (sm [(1000, 2001), (1001, 2002), (1002, 2003)] [(4, iD 0), (5, oD (.ptr 5 0)), (6, iD v1)] [(5, .box [.own 1000, .own 1001, .own 1002]), (1000, .vec 1 ((([] : List Int)).map Ao)), (1001, .vec 1 ((([] : List Int)).map Ao)), (1002, .vec 1 ((([] : List Int)).map CF))] rfl rfl)))) (As ?_)
  exact ⟨⟨[_, _, _], ⟨.tmp _ _ rfl, ⟨.cellN _ _ _ _ _ _ _ rfl rfl AZ Az rfl rfl (IX rfl), tm⟩⟩, rfl⟩, ⟨rfl, rfl, rfl, tv⟩⟩
 ·refine Ak (wp rfl (qm rfl (AL A0 rfl (BY rfl (Ac ?_)))))
  refine Bb h (fun h => ?_) fun h => ?_
  ·refine wq rfl (Br B1 Hu rfl (qa rfl (qs Az rfl (qe rfl ?_))))
   obtain rfl := sj h
   refine Af ((Av 5 0 2004 1 _ rfl rfl rfl rfl).trans ((Av 5 1 2005 1 _ rfl rfl rfl rfl).trans ((Av 5 2 2006 1 _ rfl rfl rfl rfl).trans (sm [(1000, 2004), (1001, 2005), (1002, 2006)] [(4, iD 0), (5, oD (.ptr 5 0)), (6, iD 10)] [(5, .box [.own 1000, .own 1001, .own 1002]), (1000, .vec 1 ((([] : List Int)).map Ao)), (1001, .vec 1 ((([] : List Int)).map Ao)), (1002, .vec 1 ((([] : List Int)).map CF))] rfl rfl)))) (As ?_)
   exact ⟨⟨[_, _, _], ⟨.tmp _ _ rfl, ⟨.cellN _ _ _ _ _ _ _ rfl rfl AZ Az rfl rfl (IX rfl), tm⟩⟩, rfl⟩, ⟨rfl, rfl, rfl, tv⟩⟩
  ·refine Ak (wq rfl (qa rfl (qa rfl (Ac (wp rfl (qm rfl (AL A0 rfl (qm rfl (Ac ?_)))))))))
   refine AH (L := FH N p0 p1) h (fun v4 => mk [(1, pD (.sl (p1.map Al))), (2, oD (.ptr 2 0)), (5, oD (.ptr 5 0)), (8, iD v4.1), (9, iD v4.2.1), (27, pD (.sl (p1.map Al))), (28, iD ((p1.length : Int))), (29, iD v4.2.2)] [(2, .box (Ae p0)), (5, .box [.pure (.nil0), .pure (.nil0), .pure (.nil0)])]) (fun v5 => mk [(1, pD (.sl (p1.map Al))), (5, oD (.ptr 5 0)), (8, iD v5.1), (9, iD v5.2)] [(5, .box [.pure (.nil0), .pure (.nil0), .pure (.nil0)])]) (fun _ _ => rfl) (sm [] _ _ rfl rfl) (fun j4 n4 v4 h => ?_) (fun v5 s h hs => ?_)
   ·unfold FH at h
    refine wq rfl (AV rfl (Ac (AS ?_)))
    refine Bb h (fun h => ?_) fun h => ?_
    ·refine Ak ?_
     refine AR h (fun v7 => mk [(1, pD (.sl (p1.map Al))), (2, oD (.ptr 2 0)), (5, oD (.ptr 5 0)), (8, iD v7.1), (9, iD v7.2), (27, pD (.sl (p1.map Al))), (28, iD ((p1.length : Int))), (29, iD v4.2.2)] [(2, .box (Ae p0)), (5, .box [.pure (.nil0), .pure (.nil0), .pure (.nil0)])]) (fun j7 h => ?_) (fun v7 h => ?_)
     ·refine AO (wq rfl (qm rfl ?_))
      refine B3 h fun v8 a8 b8 h => qi A0 Az a8 (Ag b8) rfl (qK AZ Az rfl (qz B1 rfl (qa rfl (qs Az rfl (Ac (wp rfl (qL Db CM rfl (qL AZ Az rfl ?_))))))))
      refine BV h fun v9 a9 h => Aw [] (Il N p0 v8 v9 a9) Uu rfl (qa rfl (Ac (wq rfl (qm rfl (Ci rfl (Ac ?_))))))
      refine Bb h (fun h => ?_) fun h => ?_
      ·refine wq rfl (Br B1 Hu rfl (qm rfl (qa rfl (qs Az rfl (qe rfl ?_)))))
       obtain rfl := sj h
       refine Af ((Av 5 0 2007 1 _ rfl rfl rfl rfl).trans ((Av 5 1 2008 1 _ rfl rfl rfl rfl).trans ((Av 5 2 2009 1 _ rfl rfl rfl rfl).trans (sm [(1000, 2007), (1001, 2008), (1002, 2009)] [(4, iD 0), (5, oD (.ptr 5 0)), (6, iD v9)] [(5, .box [.own 1000, .own 1001, .own 1002]), (1000, .vec 1 ((([] : List Int)).map Ao)), (1001, .vec 1 ((([] : List Int)).map Ao)), (1002, .vec 1 ((([] : List Int)).map CF))] rfl rfl)))) (As ?_)
       exact ⟨⟨[_, _, _], ⟨.tmp _ _ rfl, ⟨.cellN _ _ _ _ _ _ _ rfl rfl AZ Az rfl rfl (IX rfl), tm⟩⟩, rfl⟩, ⟨rfl, rfl, rfl, tv⟩⟩
      ·refine Ak (wq rfl (qa rfl (Ac (wp rfl (qf Ig rfl (ql A7 rfl (AL Ay rfl (qm rfl (Ac ?_)))))))))
       refine AH (L := Fm N p0 v8) h (fun v11 => mk [(1, pD (.sl (p1.map Al))), (2, oD (.ptr 2 0)), (5, oD (.ptr 5 0)), (8, iD v4.1), (9, iD v4.2.1), (10, iD v4.2.2), (11, oD (.ptr 11 0)), (13, iD v11.1), (27, pD (.sl (p1.map Al))), (28, iD ((p1.length : Int))), (29, iD v4.2.2), (42, pD (.sl (p0.fj.map Ao))), (43, iD ((p0.fj.length : Int))), (44, iD v11.2)] [(2, .box (Ae p0)), (5, .box [.pure (.nil0), .pure (.nil0), .pure (.nil0)]), (11, .box (AA v8))]) (fun v12 => mk [(1, pD (.sl (p1.map Al))), (2, oD (.ptr 2 0)), (5, oD (.ptr 5 0)), (8, iD v4.1), (9, iD v4.2.1), (10, iD v4.2.2), (13, iD v12), (27, pD (.sl (p1.map Al))), (28, iD ((p1.length : Int))), (29, iD v4.2.2)] [(2, .box (Ae p0)), (5, .box [.pure (.nil0), .pure (.nil0), .pure (.nil0)])]) (fun _ _ => rfl) (sm [] _ _ rfl rfl) (fun j11 n11 v11 h => ?_) (fun v12 s h hs => ?_)
       ·unfold Fm at h
        refine wq rfl (AV rfl (Ac (AS ?_)))
        refine Bb h (fun h => ?_) fun h => ?_
        ·refine Ak ?_
         refine AR h (fun v14 => mk [(1, pD (.sl (p1.map Al))), (2, oD (.ptr 2 0)), (5, oD (.ptr 5 0)), (8, iD v4.1), (9, iD v4.2.1), (10, iD v4.2.2), (11, oD (.ptr 11 0)), (13, iD v14), (27, pD (.sl (p1.map Al))), (28, iD ((p1.length : Int))), (29, iD v4.2.2), (42, pD (.sl (p0.fj.map Ao))), (43, iD ((p0.fj.length : Int))), (44, iD v11.2)] [(2, .box (Ae p0)), (5, .box [.pure (.nil0), .pure (.nil0), .pure (.nil0)]), (11, .box (AA v8))]) (fun j14 h => ?_) (fun v14 h => ?_)
         ·refine AO (wq rfl (qm rfl ?_))
          refine B3 h fun v15 a15 b15 h => qi Ay Do a15 (Ag b15) rfl (qk Cl rfl (qa rfl (qe rfl ?_)))
          refine AR h (fun v16 => mk [(1, pD (.sl (p1.map Al))), (2, oD (.ptr 2 0)), (5, oD (.ptr 5 0)), (8, iD v4.1), (9, iD v4.2.1), (10, iD v4.2.2), (11, oD (.ptr 11 0)), (13, iD v11.1), (27, pD (.sl (p1.map Al))), (28, iD ((p1.length : Int))), (29, iD v4.2.2), (42, pD (.sl (p0.fj.map Ao))), (43, iD ((p0.fj.length : Int))), (44, iD v11.2), (63, bD v16)] [(2, .box (Ae p0)), (5, .box [.pure (.nil0), .pure (.nil0), .pure (.nil0)]), (11, .box (AA v8))]) (fun j16 h => ?_) (fun v16 h => ?_)
          ·refine Ah Ax rfl (qf Ct rfl (ql A7 rfl (qm rfl ?_)))
           refine B3 h fun v17 a17 b17 h => qi Ay Do a17 (Ag b17) rfl (qk Cl rfl (qm rfl (BY rfl (qm rfl ?_))))
           refine Eh 56 h rfl (fun h => ?_) fun h => ?_
           ·refine qf Bo rfl (ql A7 rfl (qm rfl ?_))
            refine B3 h fun v19 a19 b19 h => qi Ay Do a19 (Ag b19) rfl (qk Cl rfl (AV rfl (qp rfl (Ac ?_))))
            exact sn [] h
           ·refine qw 6 rfl (qp rfl (Ac ?_))
            exact sn [] h
          ·refine Bb h (fun h => ?_) fun h => ?_
           ·refine Ah Ax rfl (qm rfl (A4 rfl (qe rfl ?_)))
            exact sn [] h
           ·refine Ak ?_
            exact sn [] h
         ·refine Ah Ax rfl (A4 rfl (qm rfl (Ac ?_)))
          exact sn [] h
        ·refine AT ?_
         exact sn [] h
       ·refine Af hs (wq rfl (qw 2 rfl (FW rfl (Ac ?_))))
        refine Bb h (fun h => ?_) fun h => ?_
        ·refine Ah Ax rfl (qw 2 rfl (qa rfl (qe rfl ?_)))
         exact sn [] h
        ·refine Ak ?_
         exact sn [] h
     ·refine Ah Ax rfl (A4 rfl (qm rfl (Ac ?_)))
      exact sn [] h
    ·refine AT ?_
     exact sn [] h
   ·refine Af hs (wq rfl (qw 2 rfl ?_))
    refine B3 h fun v22 a22 b22 h => qi A0 Az a22 (Ag b22) rfl (qK AZ Az rfl (qz B1 rfl (qs Az rfl (Ac (wq rfl (qm rfl (qf Ct rfl (ql A7 rfl ?_))))))))
    refine BV h fun v23 a23 h => Aw [2010] (C8 N v22.fd v23 a23) SK rfl (qf Bo rfl (ql A7 rfl ?_))
    refine BV h fun v24 a24 h => Aw [2011] (C8 N v22.fa v24 a24) SK rfl (qf Cx rfl (ql GU rfl ?_))
    refine BV h fun v25 a25 h => Aw [2012] (EM N v22.fc v25 a25) Ys rfl (Br B1 Hu rfl (qa rfl (qs Az rfl (qa rfl (AM (by kernel_rfl) ?_)))))
    obtain rfl := sj h
    refine Af (sm [(1000, 2010), (1001, 2011), (1002, 2012)] [(4, iD v5.1), (5, oD (.ptr 5 0)), (6, iD 0)] [(5, .box [.own 1000, .own 1001, .own 1002]), (1000, .vec 1 (v23.map Ao)), (1001, .vec 1 (v24.map Ao)), (1002, .vec 1 (v25.map CF))] rfl rfl) (As ?_)
    exact ⟨⟨[_, _, _], ⟨.tmp _ _ rfl, ⟨.cellN _ _ _ _ _ _ _ rfl rfl AZ Az rfl rfl (IX rfl), tm⟩⟩, rfl⟩, ⟨rfl, rfl, rfl, tv⟩⟩
theorem GT (N : Nat) (p0 : Aa) (p1 : Aa) (r : Bool) (h : Du N p0 p1 = some r) : Ar uS 27 [.e (.agg (AA p0)), .e (.agg (AA p1))] [] (bD r) := by
 unfold Du at h
 refine cw (n := 9) (rs := [.tmp 4]) Tryz.func27 fun w0 S0 => ?_
 refine wq rfl (qb rfl (qb rfl (qa rfl (Ac (wq rfl (qL AZ Az rfl (qL AZ Az rfl ?_)))))))
 refine BV h fun v1 a1 h => Aw [] (ED N p0 p1 v1 a1) Ur rfl (BY rfl (qe rfl ?_))
 obtain rfl := sj h
 refine Af (sm [] [(4, bD ((v1 == 0)))] [] rfl rfl) (As ?_)
 exact ⟨⟨[_], tm, rfl⟩, tv⟩
theorem LA (N : Nat) (p0 : List Aa) (p1 : List Aa) (r : Bool) (h : GX N p0 p1 = some r) : Ar uS 14 [pD (.sl (p0.map Al)), pD (.sl (p1.map Al))] [] (bD r) := by
 unfold GX at h
 refine cw (n := 27) (rs := [.tmp 4]) Tryz.func14 fun w0 S0 => ?_
 refine wq rfl (qa rfl (Ac (wp rfl (qm rfl (AL A0 rfl (qm rfl (AL A0 rfl (Ci rfl (Ac ?_)))))))))
 refine Bb h (fun h => ?_) fun h => ?_
 ·refine wq rfl (qe rfl ?_)
  obtain rfl := sj h
  refine Af (sm [] [(4, bD false)] [] rfl rfl) (As ?_)
  exact ⟨⟨[_], tm, rfl⟩, tv⟩
 ·refine Ak (wp rfl (qe rfl ?_))
  refine AH (L := Fa N p0 p1) h (fun v2 => mk [(0, pD (.sl (p0.map Al))), (1, pD (.sl (p1.map Al))), (5, iD v2)] []) (fun v3 => mk [] []) (fun _ _ => rfl) (sm [] _ _ rfl rfl) (fun j2 n2 v2 h => ?_) (fun v3 s h hs => ?_)
  ·unfold Fa at h
   refine wp rfl (qw 2 rfl (AL A0 rfl (AV rfl (Ac ?_))))
   refine Bb h (fun h => ?_) fun h => ?_
   ·refine Ak (AS (AO (wq rfl (qw 2 rfl ?_))))
    refine B3 h fun v5 a5 b5 h => qi A0 Az a5 (Ag b5) rfl (qK AZ Az rfl (qw 2 rfl ?_))
    refine B3 h fun v6 a6 b6 h => qi A0 Az a6 (Ag b6) rfl (qK AZ Az rfl ?_)
    refine BV h fun v7 a7 h => Aw [] (GT N v5 v6 v7 a7) Yy rfl (Cm rfl (AM (by kernel_rfl) ?_))
    refine Bb h (fun h => ?_) fun h => ?_
    ·refine wq rfl (qe rfl ?_)
     obtain rfl := sj h
     refine Af (sm [] [(4, bD false)] [] rfl rfl) (As ?_)
     exact ⟨⟨[_], tm, rfl⟩, tv⟩
    ·refine Ak (Ah Ax rfl (qm rfl (A4 rfl (qe rfl ?_))))
     exact sn [] h
   ·refine AT ?_
    exact sn [] h
  ·refine Af hs (wq rfl (qe rfl ?_))
   obtain rfl := sj h
   refine Af (sm [] [(4, bD true)] [] rfl rfl) (As ?_)
   exact ⟨⟨[_], tm, rfl⟩, tv⟩
theorem DD (N : Nat) (p0 : List Aa) (p1 : Aa) (p2 : (Aa × Aa) → Option Int) (r : Int × Bool) (h : AQ N p0 p1 p2 = some r) : Ar uS 78 [pD (.sl (p0.map Al)), .e (.agg (AA p1)), oD (.clo (HT (Uj true Al true Al) VG p2))] [] (.tup [.one (iC r.1), .one (.pure (.val (.bool r.2)))]) := by
 unfold AQ at h
 refine cw (n := 49) (rs := [.tmp 6, .tmp 7]) Tryz.func78 fun w0 S0 => ?_
 refine wq rfl (qb rfl (qa rfl (qa rfl (Ac (wq rfl (qm rfl (AL A0 rfl (qa rfl (Ac (wq rfl (qm rfl (qa rfl (qa rfl (Ac (AS ?_)))))))))))))))
 refine AH (L := AE N p0 p1 p2) h (fun v1 => mk [(0, pD (.sl (p0.map Al))), (2, oD (.clo (HT (Uj true Al true Al) VG p2))), (4, oD (.ptr 4 0)), (8, iD ((p0.length : Int))), (9, iD v1.1), (10, iD v1.2)] [(4, .box (AA p1))]) (fun v2 => mk [(0, pD (.sl (p0.map Al))), (2, oD (.clo (HT (Uj true Al true Al) VG p2))), (4, oD (.ptr 4 0)), (8, iD ((p0.length : Int))), (9, iD v2)] [(4, .box (AA p1))]) (fun _ _ => rfl) (sm [] _ _ rfl rfl) (fun j1 n1 v1 h => ?_) (fun v2 s h hs => ?_)
 ·unfold AE at h
  refine wp rfl (qw 2 rfl (AV rfl (Ac ?_)))
  refine Bb h (fun h => ?_) fun h => ?_
  ·refine Ak (AO (wq rfl (qw 2 rfl (A4 rfl (Iw YF Rc rfl (Jv rfl (by decide) (Iw TG Vs rfl (qa rfl (Ac (wq rfl (qw 3 rfl ?_)))))))))))
   refine B3 h fun v4 a4 b4 h => qi A0 Az a4 (Ag b4) rfl (qK AZ Az rfl (qL AZ Az rfl ?_))
   refine BV h fun v5 a5 h => Kp (ds0 := [_, _]) (ar := (Uj true Al true Al) ((v4, p1))) (.p rfl) rfl rfl ⟨rfl, rfl, tv⟩ rfl rfl rfl (JC (QO _ _ _ _ IT IT) a5) ?_
   refine AV rfl (AM (by kernel_rfl) ?_)
   refine Bb h (fun h => ?_) fun h => ?_
   ·refine Ah Ax rfl (qm rfl (A4 rfl (qe rfl ?_)))
    exact sn [] h
   ·refine Ah Ax rfl (qm rfl (qe rfl ?_))
    exact sn [] h
  ·refine AT ?_
   exact sn [] h
 ·refine Af hs ?_
  refine AR h (fun v7 => mk [(6, iD v2), (7, bD v7)] []) (fun j7 h => ?_) (fun v7 h => ?_)
  ·refine Ah Ax rfl (qw 3 rfl (AV rfl (qm rfl ?_)))
   refine Eh 39 h rfl (fun h => ?_) fun h => ?_
   ·refine qw 3 rfl ?_
    refine B3 h fun v9 a9 b9 h => qi A0 Az a9 (Ag b9) rfl (qK AZ Az rfl (qL AZ Az rfl ?_))
    refine BV h fun v10 a10 h => Kp (ds0 := [_, _]) (ar := (Uj true Al true Al) ((v9, p1))) (.g rfl rfl) rfl rfl ⟨rfl, rfl, tv⟩ rfl rfl rfl (JC (QO _ _ _ _ IT IT) a10) ?_
    refine BY rfl (qp rfl (qa rfl (qa rfl (AM (by kernel_rfl) ?_))))
    exact sn [] h
   ·refine qw 8 rfl (qp rfl (qa rfl (qa rfl (AM (by kernel_rfl) ?_))))
    exact sn [] h
  ·obtain rfl := sj h
   refine Af (sm [] [(6, iD v2), (7, bD v7)] [] rfl rfl) (As ?_)
   exact ⟨⟨[_, _], ⟨.tmp _ _ rfl, tm⟩, rfl⟩, tv⟩
theorem Kv (N : Nat) (p0 : List Aa) (p1 : Aa) (r : Bool) (h : Fd N p0 p1 = some r) : Ar uS 47 [pD (.sl (p0.map Al)), .e (.agg (AA p1))] [] (bD r) := by
 unfold Fd at h
 refine cw (n := 14) (rs := [.tmp 4]) Tryz.func47 fun w0 S0 => ?_
 refine wq rfl (qb rfl (qa rfl (Ac (wq rfl (qm rfl (qL AZ Az rfl ?_))))))
 refine BV h fun v1 a1 h => Aw [] (Ar.weak (ds' := [pD (.sl (p0.map Al)), .e (.agg (AA p1)), oD (.fnc 46)]) (DD N p0 p1 ((fun (x : Aa × Aa) => CD N x.1 x.2)) v1 a1) ⟨(fun _ _ _ hh => hh), (fun _ _ _ hh => hh), (fun _ _ _ hh => NN Yl (fun ar t ht => by obtain ⟨x, r, rfl, hq, rfl⟩ := GI ht; exact JL N x.1 x.2 r hq) hh), tv⟩) Y6 rfl ?_
 refine qm rfl (qx rfl (qx rfl (qa rfl (qa rfl (Ac (wq rfl (qm rfl (qe rfl ?_))))))))
 obtain rfl := sj h
 refine Af (sm [] [(4, bD v1.2)] [] rfl rfl) (As ?_)
 exact ⟨⟨[_], tm, rfl⟩, tv⟩
theorem H3 (N : Nat) (p0 : Ab) (p1 : List Aa) (r : Bool) (h : DZ N p0 p1 = some r) : Ar uS 15 [.e (.agg (Ae p0)), pD (.sl (p1.map Al))] [] (bD r) := by
 unfold DZ at h
 refine cw (n := 122) (rs := [.tmp 4]) Tryz.func15 fun w0 S0 => ?_
 refine wq rfl (qb rfl (qa rfl (Ac (wq rfl (qL Db CM rfl ?_)))))
 refine BV h fun v1 a1 h => Aw [2001, 2002, 2003] (Ns N p0 v1 a1) YN rfl (qm rfl (qx rfl (qx rfl (qz B1 rfl (qs Az rfl (qa rfl (Ac (wp rfl (qm rfl (Ci rfl (Ac ?_)))))))))))
 refine Bb h (fun h => ?_) fun h => ?_
 ·refine wq rfl (qe rfl ?_)
  obtain rfl := sj h
  refine Af (sm [] [(4, bD false)] [] rfl rfl) (As ?_)
  exact ⟨⟨[_], tm, rfl⟩, tv⟩
 ·refine Ak (wp rfl (qL Db CM rfl (qL AZ Az rfl ?_)))
  refine BV h fun v3 a3 h => CP [] [2001, 2002, 2003] (HZ N p0 v1.1 v3 a3) U1 BA rfl (qm rfl (qx rfl (qx rfl (qa rfl (qa rfl (Ac (wq rfl (qm rfl (Cm rfl (Ac ?_))))))))))
  refine Bb h (fun h => ?_) fun h => ?_
  ·refine wq rfl (qm rfl (AL A0 rfl (BY rfl (qe rfl ?_))))
   obtain rfl := sj h
   refine Af (sm [] [(4, bD (((p1.length : Int) == 0)))] [] rfl rfl) (As ?_)
   exact ⟨⟨[_], tm, rfl⟩, tv⟩
  ·refine Ak (wp rfl (qm rfl (AL A0 rfl (qm rfl (Ac ?_)))))
   refine AH (L := EI N p0 p1) h (fun v5 => mk [(1, pD (.sl (p1.map Al))), (2, oD (.ptr 2 0)), (5, oD (.ptr 5 0)), (41, pD (.sl (p1.map Al))), (42, iD ((p1.length : Int))), (43, iD v5)] [(2, .box (Ae p0)), (5, .box [.own 2004, .own 2005, .own 2006]), (2004, .vec 1 (v1.1.fd.map Ao)), (2005, .vec 1 (v1.1.fa.map Ao)), (2006, .vec 1 (v1.1.fc.map CF))]) (fun v6 => mk [(1, pD (.sl (p1.map Al))), (2, oD (.ptr 2 0)), (5, oD (.ptr 5 0))] [(2, .box (Ae p0)), (5, .box [.own 2007, .own 2008, .own 2009]), (2007, .vec 1 (v1.1.fd.map Ao)), (2008, .vec 1 (v1.1.fa.map Ao)), (2009, .vec 1 (v1.1.fc.map CF))]) (fun _ _ => rfl) (sm [(2004, 2001), (2005, 2002), (2006, 2003)] _ _ rfl rfl) (fun j5 n5 v5 h => ?_) (fun v6 s h hs => ?_)
   ·unfold EI at h
    refine wq rfl (AV rfl (Ac (AS ?_)))
    refine Bb h (fun h => ?_) fun h => ?_
    ·refine Ak (AS (AO (wq rfl (qm rfl ?_))))
     refine B3 h fun v8 a8 b8 h => qi A0 Az a8 (Ag b8) rfl (qK AZ Az rfl (qz B1 rfl (qa rfl (qs Az rfl (Ac (AS ?_))))))
     refine AR h (fun v9 => mk [(1, pD (.sl (p1.map Al))), (2, oD (.ptr 2 0)), (5, oD (.ptr 5 0)), (10, oD (.ptr 10 0)), (41, pD (.sl (p1.map Al))), (42, iD ((p1.length : Int))), (43, iD v5), (59, bD v9)] [(2, .box (Ae p0)), (5, .box [.own 2010, .own 2011, .own 2012]), (10, .box (AA v8)), (2010, .vec 1 (v1.1.fd.map Ao)), (2011, .vec 1 (v1.1.fa.map Ao)), (2012, .vec 1 (v1.1.fc.map CF))]) (fun j9 h => ?_) (fun v9 h => ?_)
     ·refine Ah Ax rfl (qm rfl (FW rfl (qm rfl ?_)))
      refine Eh 50 h rfl (fun h => ?_) fun h => ?_
      ·refine qw 2 rfl (Lr rfl ?_)
       refine B3 h fun v11 a11 b11 h => qi A0 Az a11 (Ag b11) rfl (qK AZ Az rfl (qL AZ Az rfl ?_))
       refine BV h fun v12 a12 h => Aw [] (JL N v11 v8 v12 a12) Yl rfl (Fb rfl (qp rfl (AM (by kernel_rfl) ?_)))
       exact sn [(2010, 2004), (2011, 2005), (2012, 2006)] h
      ·refine qw 8 rfl (qp rfl (AM (by kernel_rfl) ?_))
       exact sn [(2010, 2004), (2011, 2005), (2012, 2006)] h
     ·refine Bb h (fun h => ?_) fun h => ?_
      ·refine wq rfl (qe rfl ?_)
       obtain rfl := sj h
       refine Af (sm [] [(4, bD false)] [] rfl rfl) (As ?_)
       exact ⟨⟨[_], tm, rfl⟩, tv⟩
      ·refine Ak (wq rfl (qL Db CM rfl (qL AZ Az rfl ?_)))
       refine BV h fun v14 a14 h => Aw [] (HZ N p0 v8 v14 a14) U1 rfl (qm rfl (qx rfl (qx rfl (qa rfl (qe rfl ?_)))))
       refine AR h (fun v15 => mk [(1, pD (.sl (p1.map Al))), (2, oD (.ptr 2 0)), (5, oD (.ptr 5 0)), (41, pD (.sl (p1.map Al))), (42, iD ((p1.length : Int))), (43, iD v5), (76, bD v15)] [(2, .box (Ae p0)), (5, .box [.own 2013, .own 2014, .own 2015]), (2013, .vec 1 (v1.1.fd.map Ao)), (2014, .vec 1 (v1.1.fa.map Ao)), (2015, .vec 1 (v1.1.fc.map CF))]) (fun j15 h => ?_) (fun v15 h => ?_)
       ·refine Ah Ax rfl (qm rfl (Cm rfl (qm rfl ?_)))
        refine Eh 68 h rfl (fun h => ?_) fun h => ?_
        ·refine qw 2 rfl (qp rfl (qw 4 rfl (qp rfl (Ac ?_))))
         exact sn [(2013, 2010), (2014, 2011), (2015, 2012)] h
        ·refine qm rfl (Ci rfl (qp rfl (qm rfl ?_)))
         refine Eh 72 h rfl (fun h => ?_) fun h => ?_
         ·refine qw 3 rfl (qp rfl (Ac ?_))
          exact sn [(2013, 2010), (2014, 2011), (2015, 2012)] h
         ·refine qL Db CM rfl (qL AZ Az rfl ?_)
          refine BV h fun v18 a18 h => Aw [] (Oz N p0 v8 v18 a18) ZO rfl (qp rfl (Ac ?_))
          exact sn [(2013, 2010), (2014, 2011), (2015, 2012)] h
       ·refine Bb h (fun h => ?_) fun h => ?_
        ·refine wq rfl (qe rfl ?_)
         obtain rfl := sj h
         refine Af (sm [] [(4, bD false)] [] rfl rfl) (As ?_)
         exact ⟨⟨[_], tm, rfl⟩, tv⟩
        ·refine Ak (Ah Ax rfl (A4 rfl (qm rfl (Ac ?_))))
         exact sn [(2004, 2013), (2005, 2014), (2006, 2015)] h
    ·refine AT ?_
     exact sn [(2007, 2004), (2008, 2005), (2009, 2006)] h
   ·refine Af hs (wp rfl (qm rfl (qL AZ Az rfl ?_)))
    refine BV h fun v20 a20 h => CP [] [2007, 2008, 2009] (Kv N p1 v1.1 v20 a20) YO BA rfl (Cm rfl (Ac ?_))
    refine Bb h (fun h => ?_) fun h => ?_
    ·refine wq rfl (qe rfl ?_)
     obtain rfl := sj h
     refine Af (sm [] [(4, bD false)] [] rfl rfl) (As ?_)
     exact ⟨⟨[_], tm, rfl⟩, tv⟩
    ·refine Ak (wp rfl (qm rfl (AL A0 rfl (qm rfl (Ac ?_)))))
     refine AH (L := Et N p0 p1) h (fun v22 => mk [(1, pD (.sl (p1.map Al))), (2, oD (.ptr 2 0)), (82, pD (.sl (p1.map Al))), (83, iD ((p1.length : Int))), (84, iD v22)] [(2, .box (Ae p0))]) (fun v23 => mk [] []) (fun _ _ => rfl) (sm [] _ _ rfl rfl) (fun j22 n22 v22 h => ?_) (fun v23 s h hs => ?_)
     ·unfold Et at h
      refine wq rfl (AV rfl (Ac (AS ?_)))
      refine Bb h (fun h => ?_) fun h => ?_
      ·refine Ak (AS (AO (wq rfl ?_)))
       refine B3 h fun v25 a25 b25 h => qi A0 Az a25 (Ag b25) rfl (qK AZ Az rfl (qz B1 rfl (qs Az rfl (Ac (wq rfl (qL Db CM rfl (qL AZ Az rfl ?_)))))))
       refine BV h fun v26 a26 h => Aw [2016] (I3 N p0 v25 v26 a26) Yu rfl (qm rfl (qx rfl (qx rfl (qa rfl (qa rfl (Ac (wq rfl (qm rfl (D1 E8 rfl (qm rfl (Ac ?_)))))))))))
       refine AH (L := Ev N p0 p1 v25 v26) h (fun v27 => mk [(1, pD (.sl (p1.map Al))), (2, oD (.ptr 2 0)), (14, oD (.ptr 14 0)), (82, pD (.sl (p1.map Al))), (83, iD ((p1.length : Int))), (84, iD v22), (94, oD (.own 2017)), (95, iD ((v26.1.length : Int))), (96, iD v27)] [(2, .box (Ae p0)), (14, .box (AA v25)), (2017, .vec 3 (v26.1.map AP))]) (fun v28 => mk [(1, pD (.sl (p1.map Al))), (2, oD (.ptr 2 0)), (82, pD (.sl (p1.map Al))), (83, iD ((p1.length : Int))), (84, iD v22)] [(2, .box (Ae p0))]) (fun _ _ => rfl) (sm [(2017, 2016)] _ _ rfl rfl) (fun j27 n27 v27 h => ?_) (fun v28 s h hs => ?_)
       ·unfold Ev at h
        refine wq rfl (AV rfl (Ac (AS ?_)))
        refine Bb h (fun h => ?_) fun h => ?_
        ·refine Ak (AS (AO (wq rfl ?_)))
         refine B3 h fun v30 a30 b30 h => qI E8 E2 a30 (Ag b30) rfl (qJ IA E2 (Ag b30) rfl (qz JQ rfl (qs E2 rfl (Ac (wq rfl (qL Db CM rfl (qL AZ Az rfl (qL IA E2 rfl ?_))))))))
         refine BV h fun v31 a31 h => Aw [2018, 2019, 2020] (J9 N p0 v25 v30 v31 a31) Ya rfl (qm rfl (qx rfl (qx rfl (qz B1 rfl (qs Az rfl (qa rfl (Ac (wq rfl (qL Db CM rfl (qL AZ Az rfl ?_))))))))))
         refine BV h fun v32 a32 h => CP [] [2018, 2019, 2020] (HZ N p0 v31.1 v32 a32) U1 BA rfl (qm rfl (qx rfl (qx rfl (qa rfl (qe rfl ?_)))))
         refine AR h (fun v33 => mk [(1, pD (.sl (p1.map Al))), (2, oD (.ptr 2 0)), (14, oD (.ptr 14 0)), (82, pD (.sl (p1.map Al))), (83, iD ((p1.length : Int))), (84, iD v22), (94, oD (.own 2021)), (95, iD ((v26.1.length : Int))), (96, iD v27), (119, bD v33)] [(2, .box (Ae p0)), (14, .box (AA v25)), (2021, .vec 3 (v26.1.map AP))]) (fun j33 h => ?_) (fun v33 h => ?_)
         ·refine Ah Ax rfl (qw 2 rfl ?_)
          refine Eh 114 h rfl (fun h => ?_) fun h => ?_
          ·refine qm rfl (qL AZ Az rfl ?_)
           refine BV h fun v35 a35 h => CP [] [2018, 2019, 2020] (Kv N p1 v31.1 v35 a35) YO BA rfl (Cm rfl (qp rfl (Ac ?_)))
           exact sn [(2021, 2017)] h
          ·refine qw 4 rfl (qp rfl (Ac ?_))
           exact sn [(2021, 2017)] h
         ·refine Bb h (fun h => ?_) fun h => ?_
          ·refine wq rfl (qe rfl ?_)
           obtain rfl := sj h
           refine Af (sm [] [(4, bD false)] [] rfl rfl) (As ?_)
           exact ⟨⟨[_], tm, rfl⟩, tv⟩
          ·refine Ak (Ah Ax rfl (A4 rfl (qm rfl (Ac ?_))))
           exact sn [(2017, 2021)] h
        ·refine AT ?_
         exact sn [] h
       ·refine Af hs (Ah Ax rfl (A4 rfl (qm rfl (Ac ?_))))
        exact sn [] h
      ·refine AT ?_
       exact sn [] h
     ·refine Af hs (wq rfl (qe rfl ?_))
      obtain rfl := sj h
      refine Af (sm [] [(4, bD true)] [] rfl rfl) (As ?_)
      exact ⟨⟨[_], tm, rfl⟩, tv⟩
theorem JM (N : Nat) (p0 : List Ad) (p1 : List Ad) (r : Bool) (h : Ft N p0 p1 = some r) : Ar uS 24 [pD (.sl (p0.map Aq)), pD (.sl (p1.map Aq))] [] (bD r) := by
 unfold Ft at h
 refine cw (n := 26) (rs := [.tmp 4]) Tryz.func24 fun w0 S0 => ?_
 refine wq rfl (qa rfl (Ac (wp rfl (qm rfl (AL EH rfl (qm rfl (AL EH rfl (Ci rfl (Ac ?_)))))))))
 refine Bb h (fun h => ?_) fun h => ?_
 ·refine wq rfl (qe rfl ?_)
  obtain rfl := sj h
  refine Af (sm [] [(4, bD false)] [] rfl rfl) (As ?_)
  exact ⟨⟨[_], tm, rfl⟩, tv⟩
 ·refine Ak (wp rfl (qe rfl ?_))
  refine AH (L := D0 N p0 p1) h (fun v2 => mk [(0, pD (.sl (p0.map Aq))), (1, pD (.sl (p1.map Aq))), (5, iD v2)] []) (fun v3 => mk [] []) (fun _ _ => rfl) (sm [] _ _ rfl rfl) (fun j2 n2 v2 h => ?_) (fun v3 s h hs => ?_)
  ·unfold D0 at h
   refine wp rfl (qw 2 rfl (AL EH rfl (AV rfl (Ac ?_))))
   refine Bb h (fun h => ?_) fun h => ?_
   ·refine Ak (AS (AO (wq rfl (qw 2 rfl ?_))))
    refine B3 h fun v5 a5 b5 h => qi EH Fi a5 (Ag b5) rfl (qK KP Fi rfl (qw 2 rfl ?_))
    refine B3 h fun v6 a6 b6 h => qi EH Fi a6 (Ag b6) rfl (qK KP Fi rfl ?_)
    refine XH [.int .i64 v5.ft, .int .i64 v5.fu, .int .i64 v5.fv] [.int .i64 v6.ft, .int .i64 v6.fu, .int .i64 v6.fv] (.p rfl) rfl rfl Tb rfl ?_
    refine AM (by kernel_rfl) ?_
    refine Bb h (fun h => ?_) fun h => ?_
    ·refine wq rfl (qe rfl ?_)
     obtain rfl := sj h
     refine Af (sm [] [(4, bD false)] [] rfl rfl) (As ?_)
     exact ⟨⟨[_], tm, rfl⟩, tv⟩
    ·refine Ak (Ah Ax rfl (qm rfl (A4 rfl (qe rfl ?_))))
     exact sn [] h
   ·refine AT ?_
    exact sn [] h
  ·refine Af hs (wq rfl (qe rfl ?_))
   obtain rfl := sj h
   refine Af (sm [] [(4, bD true)] [] rfl rfl) (As ?_)
   exact ⟨⟨[_], tm, rfl⟩, tv⟩
theorem IE (N : Nat) (r : Bool) (h : Eb N = some r) : Ar uS 11 [] [] (bD r) := by
 unfold Eb at h
 refine cw (n := 123) (rs := [.tmp 0]) Tryz.func11 fun w0 S0 => ?_
 refine wq rfl (qa rfl (Ac (wq rfl (DF Ay Do Kq rfl (DF Ay Do Kq rfl (DF Df FR M3 rfl (Br B1 Hu rfl (qz B1 rfl (qs Az rfl (Ac (wq rfl (DF Ay Do Kq rfl (DF Ay Do Kq rfl (DF Df FR M3 rfl (Br B1 Hu rfl (qz B1 rfl (qs Az rfl (Ac (wq rfl ?_)))))))))))))))))))
 refine BV h fun v1 a1 h => Aw [2001, 2002, 2003, 2004] (Di N v1 a1) Sz rfl (CX (AU 2001 _ _ rfl rfl) (CX (AU 2002 _ _ rfl rfl) (CX (AU 2003 _ _ rfl rfl) (CX (AU 2004 _ _ rfl rfl) ?_))))
 refine BV h fun v2 a2 h => Aw [2005] (N8 N v1 v2 a2) bn rfl (qm rfl (qx rfl (qx rfl (qa rfl (qa rfl (Ac (wq rfl ?_)))))))
 refine BV h fun v3 a3 h => Aw [2006, 2007, 2008, 2009] (Di N v3 a3) Sz rfl (qm rfl (CX (AU 2006 _ _ rfl rfl) (CX (AU 2007 _ _ rfl rfl) (CX (AU 2008 _ _ rfl rfl) (CX (AU 2009 _ _ rfl rfl) (CX (AU 2005 _ _ rfl rfl) ?_))))))
 refine BV h fun v4 a4 h => Aw [2010] (Kw N v3 v2.1 v4 a4) Zv rfl (qm rfl (qx rfl (qx rfl (qa rfl (qa rfl (Ac (wq rfl ?_)))))))
 refine BV h fun v5 a5 h => Aw [2011, 2012, 2013, 2014] (Di N v5 a5) Sz rfl (qm rfl ?_)
 refine BV h fun v6 a6 h => CP [2015] [2011, 2012, 2013, 2014] (MY N v5 v2.1 v6 a6) bj (I5 (fun _ => rfl) BA) rfl (qm rfl (qx rfl (qx rfl (qa rfl (qa rfl (Ac (wq rfl ?_)))))))
 refine BV h fun v7 a7 h => Aw [2016, 2017, 2018, 2019] (Di N v7 a7) Sz rfl (qm rfl ?_)
 refine BV h fun v8 a8 h => CP [2020, 2021, 2022] [2016, 2017, 2018, 2019] (MJ N v7 v2.1 v8 a8) aS (I5 (fun _ => rfl) (I5 (fun _ => rfl) (I5 (fun _ => rfl) BA))) rfl (qm rfl (qx rfl (qx rfl (qx rfl (qz B1 rfl (qa rfl (qs Az rfl (qa rfl (Ac (wq rfl (Br Jo SE rfl (qz Jo rfl (qs Fi rfl (Ac ?_))))))))))))))
 refine AR h (fun v9 => mk [(1, oD (.ptr 1 0)), (2, oD (.ptr 2 0)), (3, pD (.sl (v2.1.map Al))), (5, oD (.own 2032)), (7, oD (.own 2033)), (9, iD v8.1), (10, oD (.ptr 10 0)), (12, oD (.ptr 12 0)), (13, bD v9)] [(1, .box [.own 2023, .own 2024, .own 2025]), (2, .box [.own 2026, .own 2027, .own 2028]), (10, .box [.own 2029, .own 2030, .own 2031]), (12, .box [iC 0, iC 1, iC 0]), (2023, .vec 1 ((([0] : List Int)).map Ao)), (2024, .vec 1 ((([(-1)] : List Int)).map Ao)), (2025, .vec 1 ((([0] : List Int)).map CF)), (2026, .vec 1 ((([1] : List Int)).map Ao)), (2027, .vec 1 ((([(-1)] : List Int)).map Ao)), (2028, .vec 1 ((([0] : List Int)).map CF)), (2029, .vec 1 (v8.2.1.fd.map Ao)), (2030, .vec 1 (v8.2.1.fa.map Ao)), (2031, .vec 1 (v8.2.1.fc.map CF)), (2032, .vec 9 (v4.1.map D9)), (2033, .vec 3 (v6.1.map Aq))]) (fun j9 h => ?_) (fun v9 h => ?_)
 ·refine Ah Ax rfl (qm rfl (BY rfl (qm rfl ?_)))
  refine Eh 49 h rfl (fun h => ?_) fun h => ?_
  ·refine qm rfl (BY rfl (qp rfl (qm rfl ?_)))
   refine Eh 53 h rfl (fun h => ?_) fun h => ?_
   ·refine qm rfl (BY rfl (qp rfl (qm rfl ?_)))
    refine Eh 57 h rfl (fun h => ?_) fun h => ?_
    ·refine qm rfl (BY rfl (qp rfl (qe rfl ?_)))
     exact sn [(2023, 14), (2024, 15), (2025, 16), (2026, 18), (2027, 19), (2028, 20), (2029, 2020), (2030, 2021), (2031, 2022), (2032, 2010), (2033, 2015)] h
    ·refine qw 2 rfl (qp rfl (qe rfl ?_))
     exact sn [(2023, 14), (2024, 15), (2025, 16), (2026, 18), (2027, 19), (2028, 20), (2029, 2020), (2030, 2021), (2031, 2022), (2032, 2010), (2033, 2015)] h
   ·refine qw 2 rfl (qp rfl (qw 3 rfl (qp rfl (qe rfl ?_))))
    exact sn [(2023, 14), (2024, 15), (2025, 16), (2026, 18), (2027, 19), (2028, 20), (2029, 2020), (2030, 2021), (2031, 2022), (2032, 2010), (2033, 2015)] h
  ·refine qw 2 rfl (qp rfl (qw 3 rfl (qp rfl (qw 3 rfl (qp rfl (qe rfl ?_))))))
   exact sn [(2023, 14), (2024, 15), (2025, 16), (2026, 18), (2027, 19), (2028, 20), (2029, 2020), (2030, 2021), (2031, 2022), (2032, 2010), (2033, 2015)] h
 ·refine AR h (fun v13 => mk [(1, oD (.ptr 1 0)), (5, oD (.own 2037)), (7, oD (.own 2038)), (9, iD v8.1), (10, oD (.ptr 10 0)), (12, oD (.ptr 12 0)), (13, bD v13)] [(1, .box [sC ((([0] : List Int)).map Ao), sC ((([(-1)] : List Int)).map Ao), sC ((([0] : List Int)).map CF)]), (10, .box [.own 2034, .own 2035, .own 2036]), (12, .box [iC 0, iC 1, iC 0]), (2034, .vec 1 (v8.2.1.fd.map Ao)), (2035, .vec 1 (v8.2.1.fa.map Ao)), (2036, .vec 1 (v8.2.1.fc.map CF)), (2037, .vec 9 (v4.1.map D9)), (2038, .vec 3 (v6.1.map Aq))]) (fun j13 h => ?_) (fun v13 h => ?_)
  ·refine Af (AU 2023 _ _ rfl rfl) (Af (AU 2024 _ _ rfl rfl) (Af (AU 2025 _ _ rfl rfl) (Af (AU 2026 _ _ rfl rfl) (Af (AU 2027 _ _ rfl rfl) (Af (AU 2028 _ _ rfl rfl) (Ah Ax rfl (qw 2 rfl ?_)))))))
   refine Eh 62 h rfl (fun h => ?_) fun h => ?_
   ·refine qm rfl (qL AZ Az rfl (DF A0 Az B1 rfl ?_))
    refine BV h fun v15 a15 h => CP [] [65] (LA N v2.1 (([(Aa.mk (([0] : List Int)) (([(-1)] : List Int)) (([0] : List Int)))] : List Aa)) v15 a15) aQ BA rfl (qp rfl (qm rfl ?_))
    refine Eh 68 h rfl (fun h => ?_) fun h => ?_
    ·refine BV h fun v17 a17 h => Aw [2039, 2040, 2041, 2042] (Di N v17 a17) Sz rfl (qm rfl ?_)
     refine BV h fun v18 a18 h => CP [] [2039, 2040, 2041, 2042] (H3 N v17 v2.1 v18 a18) WE BA rfl (qp rfl (qm rfl ?_))
     refine Eh 73 h rfl (fun h => ?_) fun h => ?_
     ·refine BV h fun v20 a20 h => Aw [2043, 2044, 2045, 2046] (Di N v20 a20) Sz rfl ?_
      refine BV h fun v21 a21 h => CP [] [2043, 2044, 2045, 2046] (H3 N v20 (([] : List Aa)) v21 a21) WE BA rfl (Cm rfl (qp rfl (qm rfl ?_)))
      refine Eh 78 h rfl (fun h => ?_) fun h => ?_
      ·refine BV h fun v23 a23 h => Aw [2047, 2048, 2049, 2050] (Di N v23 a23) Sz rfl (qL AZ Az rfl (qL AZ Az rfl (DF A0 Az B1 rfl ?_)))
       refine BV h fun v24 a24 h => CP [] [2047, 2048, 2049, 2050, 82] (H3 N v23 (([(Aa.mk (([0] : List Int)) (([(-1)] : List Int)) (([0] : List Int))), (Aa.mk (([1] : List Int)) (([(-1)] : List Int)) (([0] : List Int)))] : List Aa)) v24 a24) WE BA rfl (Cm rfl (qp rfl (qa rfl (AM (by kernel_rfl) ?_))))
       exact sn [(2034, 2029), (2035, 2030), (2036, 2031), (2037, 2032), (2038, 2033)] h
      ·refine qw 6 rfl (qp rfl (qa rfl (AM (by kernel_rfl) ?_)))
       exact sn [(2034, 2029), (2035, 2030), (2036, 2031), (2037, 2032), (2038, 2033)] h
     ·refine qw 3 rfl (qp rfl (qw 7 rfl (qp rfl (qa rfl (AM (by kernel_rfl) ?_)))))
      exact sn [(2034, 2029), (2035, 2030), (2036, 2031), (2037, 2032), (2038, 2033)] h
    ·refine qw 3 rfl (qp rfl (qw 4 rfl (qp rfl (qw 7 rfl (qp rfl (qa rfl (AM (by kernel_rfl) ?_)))))))
     exact sn [(2034, 2029), (2035, 2030), (2036, 2031), (2037, 2032), (2038, 2033)] h
   ·refine qw 4 rfl (qp rfl (qw 4 rfl (qp rfl (qw 4 rfl (qp rfl (qw 7 rfl (qp rfl (qa rfl (AM (by kernel_rfl) ?_)))))))))
    exact sn [(2034, 2029), (2035, 2030), (2036, 2031), (2037, 2032), (2038, 2033)] h
  ·refine AR h (fun v25 => mk [(0, bD v25)] []) (fun j25 h => ?_) (fun v25 h => ?_)
   ·refine Ah Ax rfl (qw 2 rfl ?_)
    refine Eh 87 h rfl (fun h => ?_) fun h => ?_
    ·refine qm rfl (D1 Lw rfl (BY rfl (qp rfl (qm rfl ?_))))
     refine Eh 92 h rfl (fun h => ?_) fun h => ?_
     ·refine qm rfl ?_
      refine B3 h fun v28 a28 b28 h => qI Lw Rm a28 (Ag b28) rfl (qh Wl rfl ?_)
      refine Rs (.g rfl rfl) rfl IA E2 rfl (Ag b28) rfl rfl (by decide) ?_
      refine Br JQ VX rfl ?_
      refine Vn [.int .i64 v28.fA.ff, .int .i64 v28.fA.fh, .int .i64 v28.fA.fm] [.int .i64 1, .int .i64 0, .int .i64 1] (.g rfl rfl) rfl rfl Zp rfl ?_
      refine qp rfl (qm rfl ?_)
      refine Eh 100 h rfl (fun h => ?_) fun h => ?_
      ·refine qm rfl ?_
       refine B3 h fun v30 a30 b30 h => qI Lw Rm a30 (Ag b30) rfl (qh S5 rfl ?_)
       refine Rs (.g rfl rfl) rfl KP Fi rfl (Ag b30) rfl rfl (by decide) ?_
       refine qL KP Fi rfl ?_
       refine Vn [.int .i64 v30.fw.ft, .int .i64 v30.fw.fu, .int .i64 v30.fw.fv] [.int .i64 0, .int .i64 1, .int .i64 0] (.g rfl rfl) rfl rfl Tb rfl ?_
       refine qp rfl (qm rfl ?_)
       refine Eh 108 h rfl (fun h => ?_) fun h => ?_
       ·refine qm rfl (qL KP Fi rfl (DF EH Fi Jo rfl ?_))
        refine BV h fun v32 a32 h => CP [] [2038, 111] (JM N v6.1 (([(Ad.mk 0 1 0)] : List Ad)) v32 a32) ai BA rfl (qp rfl (qm rfl ?_))
        refine Eh 114 h rfl (fun h => ?_) fun h => ?_
        ·refine qm rfl (BY rfl (qp rfl (qm rfl ?_)))
         refine Eh 118 h rfl (fun h => ?_) fun h => ?_
         ·refine qL AZ Az rfl (qL AZ Az rfl ?_)
          refine BV h fun v35 a35 h => CP [] [2034, 2035, 2036] (GT N v8.2.1 ((Aa.mk (([0] : List Int)) (([(-1)] : List Int)) (([0] : List Int)))) v35 a35) Yy BA rfl (qp rfl (qa rfl (AM (by kernel_rfl) ?_)))
          exact sn [] h
         ·refine qw 3 rfl (qp rfl (qa rfl (AM (by kernel_rfl) ?_)))
          exact sn [] h
        ·refine qw 2 rfl (qp rfl (qw 4 rfl (qp rfl (qa rfl (AM (by kernel_rfl) ?_)))))
         exact sn [] h
       ·refine qw 4 rfl (qp rfl (qw 3 rfl (qp rfl (qw 4 rfl (qp rfl (qa rfl (AM (by kernel_rfl) ?_)))))))
        exact sn [] h
      ·refine qw 6 rfl (qp rfl (qw 5 rfl (qp rfl (qw 3 rfl (qp rfl (qw 4 rfl (qp rfl (qa rfl (AM (by kernel_rfl) ?_)))))))))
       exact sn [] h
     ·refine qw 6 rfl (qp rfl (qw 7 rfl (qp rfl (qw 5 rfl (qp rfl (qw 3 rfl (qp rfl (qw 4 rfl (qp rfl (qa rfl (AM (by kernel_rfl) ?_)))))))))))
      exact sn [] h
    ·refine qw 3 rfl (qp rfl (qw 7 rfl (qp rfl (qw 7 rfl (qp rfl (qw 5 rfl (qp rfl (qw 3 rfl (qp rfl (qw 4 rfl (qp rfl (qa rfl (AM (by kernel_rfl) ?_)))))))))))))
     exact sn [] h
   ·obtain rfl := sj h
    refine Af (sm [] [(0, bD v25)] [] rfl rfl) (As ?_)
    exact ⟨⟨[_], tm, rfl⟩, tv⟩
theorem Ib (N : Nat) (p0 : List Aa) (r : (List Aa)) (h : CL N p0 = some r) : Ar uS 77 [pD (.sl (p0.map Al))] [(3, r.map Al)] (oD (.own 0)) := by
 unfold CL at h
 refine cw (n := 8) (rs := [.tmp 2]) Tryz.func77 fun w0 S0 => ?_
 refine wq rfl (qa rfl (Ac (wp rfl (qm rfl ?_))))
 refine Qp (.p rfl) rfl A0 ?_
 refine Ac ?_
 refine QJ rfl (fun c2 => ?_) ?_
 ·have c2 := zH1.1 c2
  rw [c2] at h
  have h : (some (([] : List Aa))) = some r := h
  refine wq rfl (qe rfl ?_)
  obtain rfl := sj h
  refine Af ((Bf 2 2001 3 rfl rfl rfl).trans (sm [(1000, 2001)] [(2, oD (.own 1000))] [(1000, .vec 3 ((([] : List Aa)).map Al))] rfl rfl)) (As ?_)
  exact ⟨⟨[_], tm, rfl⟩, ⟨rfl, tv⟩⟩
 ·refine Ak (wq rfl (DF A0 Az B1 rfl (qm rfl ?_)))
  refine F4 h fun c1 h => I0 (f := Al) A0 A0 Az Lp B1 (fun _ => rfl) c1 rfl (qe rfl ?_)
  obtain rfl := sj h
  refine Af (sm [(1000, 7)] [(2, oD (.own 1000))] [(1000, .vec 3 (((([] : List Aa)) ++ p0).map Al))] rfl rfl) (As ?_)
  exact ⟨⟨[_], tm, rfl⟩, ⟨rfl, tv⟩⟩
theorem Hv (N : Nat) (p0 : List Int) (p1 : Int) (r : Int) (h : DL N p0 p1 = some r) : Ar uS 53 [pD (.sl (p0.map CF)), iD p1] [] (iD r) := by
 unfold DL at h
 refine cw (n := 14) (rs := [.tmp 4]) Tryz.func53 fun w0 S0 => ?_
 refine wq rfl (qa rfl (Ac (wp rfl (qw 2 rfl (AL JW rfl (AV rfl (Ac ?_)))))))
 refine Bb h (fun h => ?_) fun h => ?_
 ·refine wq rfl (qw 2 rfl ?_)
  refine B3 h fun v2 a2 b2 h => qi JW XT a2 (Ag b2) rfl (qk Xi rfl (Iw XC Vs rfl (qe rfl ?_)))
  obtain rfl := sj h
  refine Af (sm [] [(4, iD ((wI .i64 v2)))] [] rfl rfl) (As ?_)
  exact ⟨⟨[_], tm, rfl⟩, tv⟩
 ·refine Ak (wq rfl (qe rfl ?_))
  obtain rfl := sj h
  refine Af (sm [] [(4, iD 0)] [] rfl rfl) (As ?_)
  exact ⟨⟨[_], tm, rfl⟩, tv⟩
theorem MO (N : Nat) (p0 : Ab) (p1 : By) (r : Aa) (h : E1 N p0 p1 = some r) : Ar uS 17 [.e (.agg (Ae p0)), .e (.agg (EZ p1))] [(1, r.fd.map Ao), (1, r.fa.map Ao), (1, r.fc.map CF)] (.e (.agg [.own 0, .own 1, .own 2])) := by
 unfold E1 at h
 refine cw (n := 99) (rs := [.cell 4 46]) Tryz.func17 fun w0 S0 => ?_
 refine wq rfl (qb rfl (qb rfl (qz B1 rfl (Ac (wq rfl (qz B1 rfl (Ac (wp rfl (qe rfl ?_)))))))))
 refine AH (L := C2 N p0 p1) h (fun v1 => mk [(2, oD (.ptr 2 0)), (3, oD (.ptr 3 0)), (4, oD (.ptr 4 0)), (5, oD (.ptr 5 0)), (6, iD v1.2.2)] [(2, .box (Ae p0)), (3, .box (EZ p1)), (4, .box [.pure (.nil0), .pure (.nil0), .pure (.nil0)]), (5, .box [.own 2001, .own 2002, .pure (.nil0)]), (2001, .vec 1 (v1.1.map Ao)), (2002, .vec 1 (v1.2.1.map Ao))]) (fun v2 => mk [(2, oD (.ptr 2 0)), (3, oD (.ptr 3 0)), (4, oD (.ptr 4 0)), (5, oD (.ptr 5 0))] [(2, .box (Ae p0)), (3, .box (EZ p1)), (4, .box [.pure (.nil0), .pure (.nil0), .pure (.nil0)]), (5, .box [.own 2003, .own 2004, .pure (.nil0)]), (2003, .vec 1 (v2.1.map Ao)), (2004, .vec 1 (v2.2.map Ao))]) (fun _ _ => rfl) ((Av 5 0 2007 1 _ rfl rfl rfl rfl).trans ((Av 5 1 2008 1 _ rfl rfl rfl rfl).trans (sm [(2001, 2007), (2002, 2008)] _ _ rfl rfl))) (fun j1 n1 v1 h => ?_) (fun v2 s h hs => ?_)
 ·unfold C2 at h
  refine wp rfl (qm rfl (qf Bt rfl (ql A7 rfl (AL Ay rfl (AV rfl (Ac ?_))))))
  refine Bb h (fun h => ?_) fun h => ?_
  ·refine Ak (AS (AO (wq rfl (qf Bt rfl (ql A7 rfl (qm rfl ?_))))))
   refine B3 h fun v4 a4 b4 h => qi Ay Do a4 (Ag b4) rfl (qk Cl rfl (qa rfl (Ac (wq rfl (qf Wj rfl (ql RH rfl (qm rfl ?_)))))))
   refine BV h fun v5 a5 h => Aw [] (Hv N p1.fd v1.2.2 v5 a5) Yf rfl (qm rfl ?_)
   refine F4 h fun c6 h => Jw rfl c6 (qa rfl (Ac (wq rfl (qe rfl ?_))))
   refine AR h (fun v7 => mk [(2, oD (.ptr 2 0)), (3, oD (.ptr 3 0)), (4, oD (.ptr 4 0)), (5, oD (.ptr 5 0)), (6, iD v1.2.2), (8, iD ((vF v5 v4))), (9, iD v7)] [(2, .box (Ae p0)), (3, .box (EZ p1)), (4, .box [.pure (.nil0), .pure (.nil0), .pure (.nil0)]), (5, .box [.own 2005, .own 2006, .pure (.nil0)]), (2005, .vec 1 (v1.1.map Ao)), (2006, .vec 1 (v1.2.1.map Ao))]) (fun j7 h => ?_) (fun v7 h => ?_)
   ·refine wq rfl (qf WT rfl (ql RH rfl (qm rfl ?_)))
    refine BV h fun v8 a8 h => Aw [] (Hv N p1.fa v1.2.2 v8 a8) Yf rfl (qm rfl ?_)
    refine F4 h fun c9 h => Jw rfl c9 (qa rfl (Ac (wq rfl (qm rfl (FW rfl (Ac ?_))))))
    refine Bb h (fun h => ?_) fun h => ?_
    ·refine Ah Ax rfl (qw 2 rfl (A4 rfl (qm rfl ?_)))
     refine F4 h fun c11 h => Jw rfl c11 (qe rfl ?_)
     exact sn [(2005, 2001), (2006, 2002)] h
    ·refine Ak ?_
     exact sn [(2005, 2001), (2006, 2002)] h
   ·refine wq rfl (qf Ct rfl (ql A7 rfl (qm rfl (DF Ay Do Kq rfl ?_))))
    refine F4 h fun c12 h => Dp (f := Ao) Ay Ay Do LE Kq c12 rfl (qf Ct rfl (qs R7 rfl (Ac (Ah Ax rfl (qf Bo rfl (ql A7 rfl (qm rfl (DF Ay Do Kq rfl ?_))))))))
    refine F4 h fun c13 h => Dp (f := Ao) Ay Ay Do LE Kq c13 rfl (qf Bo rfl (qs R7 rfl (Ac (Ah Ax rfl (qm rfl (A4 rfl (qe rfl ?_)))))))
    exact sn [(2001, 50), (2002, 56)] h
  ·refine AT ?_
   exact sn [(2003, 2001), (2004, 2002)] h
 ·refine Af hs (wp rfl (qe rfl ?_))
  refine AH (L := Bq N p0 p1 v2) h (fun v14 => mk [(2, oD (.ptr 2 0)), (3, oD (.ptr 3 0)), (4, oD (.ptr 4 0)), (5, oD (.ptr 5 0)), (11, iD v14.2)] [(2, .box (Ae p0)), (3, .box (EZ p1)), (4, .box [.pure (.nil0), .pure (.nil0), .pure (.nil0)]), (5, .box [.own 2009, .own 2010, .own 2011]), (2009, .vec 1 (v2.1.map Ao)), (2010, .vec 1 (v2.2.map Ao)), (2011, .vec 1 (v14.1.map CF))]) (fun v15 => mk [(4, oD (.ptr 4 0)), (5, oD (.ptr 5 0))] [(4, .box [.pure (.nil0), .pure (.nil0), .pure (.nil0)]), (5, .box [.own 2012, .own 2013, .own 2014]), (2012, .vec 1 (v2.1.map Ao)), (2013, .vec 1 (v2.2.map Ao)), (2014, .vec 1 (v15.map CF))]) (fun _ _ => rfl) ((Av 5 2 2018 1 _ rfl rfl rfl rfl).trans (sm [(2009, 2003), (2010, 2004), (2011, 2018)] _ _ rfl rfl)) (fun j14 n14 v14 h => ?_) (fun v15 s h hs => ?_)
  ·unfold Bq at h
   refine wp rfl (qm rfl (qf CY rfl (ql Hz rfl (AL Ek rfl (AV rfl (Ac ?_))))))
   refine Bb h (fun h => ?_) fun h => ?_
   ·refine Ak (AS (AO (wq rfl (qf CY rfl (ql Hz rfl (qm rfl ?_))))))
    refine B3 h fun v17 a17 b17 h => qi Ek Ex a17 (Ag b17) rfl (qK HM Ex rfl (qz Lj rfl (qs Ex rfl (Ac (wq rfl (qe rfl ?_))))))
    refine AR h (fun v18 => mk [(2, oD (.ptr 2 0)), (3, oD (.ptr 3 0)), (4, oD (.ptr 4 0)), (5, oD (.ptr 5 0)), (11, iD v14.2), (13, pD (.val (.int .u8 v18)))] [(2, .box (Ae p0)), (3, .box (EZ p1)), (4, .box [.pure (.nil0), .pure (.nil0), .pure (.nil0)]), (5, .box [.own 2015, .own 2016, .own 2017]), (2015, .vec 1 (v2.1.map Ao)), (2016, .vec 1 (v2.2.map Ao)), (2017, .vec 1 (v14.1.map CF))]) (fun j18 h => ?_) (fun v18 h => ?_)
    ·refine wq rfl (qL HM Ex rfl ?_)
     refine BV h fun v19 a19 h => Aw [] (Ch N v17 v19 a19) O7 rfl (Ac ?_)
     refine Bb h (fun h => ?_) fun h => ?_
     ·refine wq rfl (qf Bt rfl (ql A7 rfl (qf Dl rfl (ql Cl rfl ?_))))
      refine B3 h fun v21 a21 b21 h => qi Ay Do a21 (Ag b21) rfl (qk Cl rfl ?_)
      refine F4 h fun c22 h => Jm rfl c22 (Lr rfl (qa rfl (Ac (Ah Ax rfl (qL AZ Az rfl (qf Dl rfl (ql Cl rfl ?_)))))))
      refine BV h fun v23 a23 h => CP [] [2009, 2010, 2011] (DU N ((Aa.mk v2.1 v2.2 v14.1)) v17.fg v23 a23) TX BA rfl (qf WO rfl (ql RH rfl (qm rfl ?_)))
      refine BV h fun v24 a24 h => Aw [] (Hv N p1.fc v14.2 v24 a24) Yf rfl (Iw YF aZ rfl (qm rfl (Mu rfl (TN rfl (qa rfl (AM (by kernel_rfl) ?_))))))
      exact sn [(2015, 2009), (2016, 2010), (2017, 2011)] h
     ·refine Ak ?_
      exact sn [(2015, 2009), (2016, 2010), (2017, 2011)] h
    ·refine Ah Ax rfl (qf Cx rfl (ql GU rfl (qm rfl (DF Df FR M3 rfl ?_))))
     refine F4 h fun c25 h => Dp (f := CF) Df Df FR PY M3 c25 rfl (qf Cx rfl (qs Zn rfl (Ac (Ah Ax rfl (qm rfl (A4 rfl (qe rfl ?_)))))))
     exact sn [(2009, 2015), (2010, 2016), (2011, 96)] h
   ·refine AT ?_
    exact sn [(2012, 2009), (2013, 2010), (2014, 2011)] h
  ·refine Af hs (wq rfl (qL AZ Az rfl (qs Az rfl (Ac ?_))))
   obtain rfl := sj h
   refine Af (sm [(1000, 2012), (1001, 2013), (1002, 2014)] [(4, oD (.ptr 4 0))] [(4, .box [.own 1000, .own 1001, .own 1002]), (1000, .vec 1 (v2.1.map Ao)), (1001, .vec 1 (v2.2.map Ao)), (1002, .vec 1 (v15.map CF))] rfl rfl) (As ?_)
   exact ⟨⟨[_], ⟨.cellN _ _ _ _ _ _ _ rfl rfl AZ Az rfl rfl (IX rfl), tv⟩, rfl⟩, ⟨rfl, rfl, rfl, tv⟩⟩
set_option maxRecDepth 1000000 in
theorem Wr (a : Option Addr) (n c : Nat) (p : Option Addr) (vc : Nat) (w : World) (r : Value) (w1 : World) (ha : a = none → c = 0) (hnc : n ≤ c)
  (hA : ∀ ty, (Builtin.append_ #[30, 30] ty #[.slice a n c, .slice p 1 vc]).run uS w = .ok r w1) :
  Calls uS 79 #[.slice a n c, .int .i64 (n : Int), .slice p 1 vc] w fun e w' => e = .returned r ∧ w' = w1 := by
 go_enter Tryz.func79, Tryz.ntmps79
 cases a with
 | none =>
  have h0 := ha rfl
  subst h0
  obtain rfl : n = 0 := by omega
  go_wp2_with (at_builtin; refine Lib.wpList_append_run _ rfl _ _ _ _ rfl _ _ rfl rfl _ _ (hA _) ?_)
  go_ret
  exact ⟨rfl, rfl⟩
 | some a =>
  obtain ⟨ab, ao, asp⟩ := a
  go_wp2_with (at_builtin; refine Lib.wpList_append_run _ rfl _ _ _ _ rfl _ _ rfl rfl _ _ (hA _) ?_)
  all_goals (go_ret; exact ⟨rfl, rfl⟩)
set_option maxHeartbeats 4000000 in
set_option maxRecDepth 1000000 in
theorem WL (b i n c G B : Nat) (p : Option Addr) (vc : Nat) (w w1 w2 w3 : World) (r1 r2 : Value) (hi : i < n) (hnl : n ≤ 4294967296) (hnc : n ≤ c) (hc : c < n + 1) (hG : n + 1 ≤ G)
  (hZ : ∀ ty, (Builtin.append_ #[30, 3] ty #[.slice (some ⟨b, 0, none⟩) i c, .int .i64 ((n : Int) + 1 - (i : Int))]).run uS w = .ok (.slice (some ⟨B, 0, none⟩) (n + 1) G) w1)
  (h1 : ∀ ty dc, (Builtin.copy_ #[30, 30] ty #[.slice (some ⟨B, i * 3, none⟩) (n + 1 - i) dc, .slice p 1 vc]).run uS w1 = .ok r1 w2)
  (h2 : ∀ ty dc sc, (Builtin.copy_ #[30, 30] ty #[.slice (some ⟨B, (i + 1) * 3, none⟩) (n + 1 - (i + 1)) dc, .slice (some ⟨b, i * 3, none⟩) (n - i) sc]).run uS w2.drew = .ok r2 w3) :
  Calls uS 79 #[.slice (some ⟨b, 0, none⟩) n c, .int .i64 (i : Int), .slice p 1 vc] w fun e w' => e = .returned (.slice (some ⟨B, 0, none⟩) (n + 1) G) ∧ w' = w3 := by
 have hw1 : IntKind.i64.wrap ((i : Int) + 1) = (i : Int) + 1 := by rw [IntKind.wrap_i64]; omega
 have hw2 : IntKind.i64.wrap ((n : Int) + 1) = (n : Int) + 1 := by rw [IntKind.wrap_i64]; omega
 have hw3 : IntKind.i64.wrap ((n : Int) + 1 - (i : Int)) = (n : Int) + 1 - (i : Int) := by rw [IntKind.wrap_i64]; omega
 have hz2 : ¬ ((i : Int) = (n : Int)) := by omega
 have hz3 : (c : Int) < (n : Int) + 1 := by omega
 have hGi : ¬ (G = i) := by omega
 have hGim : ¬ (G = i + 1) := by omega
 have hci : ¬ (c = i) := by omega
 have hb1 : (0 : Int) ≤ (i : Int) + 1 := by omega
 have hin : i ≤ n := by omega
 have htn : ((i : Int) + 1).toNat = i + 1 := by omega
 have hb3 : (i : Int) ≤ (n : Int) := by omega
 have Ax : Tryz.prog.follows .mixedOrders = true := by kernel_rfl
 go_enter Tryz.func79, Tryz.ntmps79
 go_wp2_with (first
  | (at_builtin; refine Lib.wpList_append_run _ rfl _ _ _ _ rfl _ _ rfl rfl _ _ (hZ _) ?_)
  | (at_builtin; refine wpList_copy_runI _ rfl _ _ 30 30 rfl _ _ rfl rfl (h1 _ _) ?_))
 go_region_law_o (refine step_copy_runI rfl _ _ 30 30 rfl (.slice (some ⟨B, (i + 1) * 3, none⟩) (n + 1 - (i + 1)) (G - (i + 1))) (.slice (some ⟨b, i * 3, none⟩) (n - i) (c - i)) (by simp [Act.eval, Act.put]) (by simp [Act.eval, Act.put]) (h2 3 (G - (i + 1)) (c - i)) ?_)
 go_wp2
 go_ret
 exact ⟨rfl, rfl⟩
set_option maxHeartbeats 4000000 in
set_option maxRecDepth 1000000 in
theorem WR (b i n c : Nat) (p : Option Addr) (vc : Nat) (w w1 w2 : World) (r1 r2 : Value) (hi : i < n) (hnl : n ≤ 4294967296) (hc : n + 1 ≤ c)
  (hov : ∀ lb cb, (callFunc 116 #[.slice p 1 vc, .slice (some ⟨b, (i + 1) * 3, none⟩) lb cb]).run uS w = .ok (.value (.bool false)) w)
  (h1 : ∀ ty dc sc, (Builtin.copy_ #[30, 30] ty #[.slice (some ⟨b, (i + 1) * 3, none⟩) (n + 1 - (i + 1)) dc, .slice (some ⟨b, i * 3, none⟩) (n + 1 - i) sc]).run uS w.drew = .ok r1 w1)
  (h2 : ∀ ty dc, (Builtin.copy_ #[30, 30] ty #[.slice (some ⟨b, i * 3, none⟩) (n + 1 - i) dc, .slice p 1 vc]).run uS w1 = .ok r2 w2) :
  Calls uS 79 #[.slice (some ⟨b, 0, none⟩) n c, .int .i64 (i : Int), .slice p 1 vc] w fun e w' => e = .returned (.slice (some ⟨b, 0, none⟩) (n + 1) c) ∧ w' = w2 := by
 have hw1 : IntKind.i64.wrap ((i : Int) + 1) = (i : Int) + 1 := by rw [IntKind.wrap_i64]; omega
 have hw2 : IntKind.i64.wrap ((n : Int) + 1) = (n : Int) + 1 := by rw [IntKind.wrap_i64]; omega
 have hz2 : ¬ ((i : Int) = (n : Int)) := by omega
 have hz3 : ¬ ((c : Int) < (n : Int) + 1) := by omega
 have hb1 : (0 : Int) ≤ (i : Int) + 1 := by omega
 have hb0 : (0 : Int) ≤ (n : Int) + 1 := by omega
 have hin : i ≤ n := by omega
 have htn : ((i : Int) + 1).toNat = i + 1 := by omega
 have htm : ((n : Int) + 1).toNat = n + 1 := by omega
 have hb2 : ¬ (c = i + 1) := by omega
 have hb3 : (i : Int) ≤ (n : Int) + 1 := by omega
 have hb4 : ¬ (c = i) := by omega
 have Ax : Tryz.prog.follows .mixedOrders = true := by kernel_rfl
 go_enter Tryz.func79, Tryz.ntmps79
 go_wp2_with (simp only [hov])
 go_region_law_o (refine step_copy_runI rfl _ _ 30 30 rfl (.slice (some ⟨b, (i + 1) * 3, none⟩) (n + 1 - (i + 1)) (c - (i + 1))) (.slice (some ⟨b, i * 3, none⟩) (n + 1 - i) (c - i)) (by simp [Act.eval, Act.put]) (by simp [Act.eval, Act.put]) (h1 3 (c - (i + 1)) (c - i)) ?_)
 go_wp2_with (at_builtin; refine wpList_copy_runI _ rfl _ _ 30 30 rfl _ _ rfl rfl (h2 _ _) ?_)
 go_ret
 exact ⟨rfl, rfl⟩
theorem FQ (N : Nat) (p0 : List Aa) (p1 : Int) (p2 : List Aa) (r : List Aa) (h : Bw N p0 p1 p2 = some r) : J1 uS 79 [oD (.own 90900), iD p1, pD (.sl (p2.map Al))] (.vec 3 (p0.map Al)) [.vec 3 (r.map Al)] (oD (.own 0)) :=
 V0 (bytes := 0) (tS := 30) (el := 46) rfl (fun rows x i hx hi hl => U3 (ov := 116) (tR := 4) (ti := 3) A0 (by kernel_rfl) Az Lp (IU rfl) B1 rfl (by decide)
  (fun w x y hq => by rw [run_callFunc_extern Tryz.func116 (by kernel_rfl) (by kernel_rfl) (by kernel_rfl) (e := Extern.SlicesOverlaps.overlaps #[30, 30] #[4]) (by kernel_rfl), hq]; rfl)
  (fun a n c p vc w r w1 g1 g2 g3 => Wr a n c p vc w r w1 g1 g2 g3) (fun b i n c C B p vc w w1 w2 w3 r1 r2 g1 g2 g3 g4 g5 g6 g7 g8 => WL b i n c C B p vc w w1 w2 w3 r1 r2 g1 g2 g3 g4 g5 g6 g7 g8) (fun b i n c p vc w w1 w2 r1 r2 g1 g2 g3 g4 g5 g6 => WR b i n c p vc w w1 w2 r1 r2 g1 g2 g3 g4 g5 g6) hx hi hl) (fun _ => rfl) h
theorem H6 (N : Nat) (p0 : List Aa) (p1 : Int) (p2 : Int) (r : Nat × (List Aa)) (h : B6 N p0 p1 p2 = some r) : DS uS 80 [oD (.own 90000), iD p1, iD p2] [(.vec 3 (p0.map Al), .vec 3 (r.2.map Al))] [] (oD (.view 90000 3 0 r.1)) := by
 unfold B6 at h
 refine FZ (n := 33) (rs := [.tmp 6]) Tryz.func80 rfl rfl rfl (IU rfl) (IU rfl) rfl rfl (IU rfl) rfl (IU rfl) fun w0 S0 GL => ?_
 refine Af (sm [] [(0, oD (.own 90000)), (1, iD p1), (2, iD p2)] [(90000, .vec 3 (p0.map Al))] rfl rfl) (wq rfl (qa rfl (Ac (wq rfl (qw 4 rfl (D1 A0 rfl ?_))))))
 refine F4 h fun c1 h => VL (.p rfl) rfl rfl A0 Az rfl rfl rfl c1.1 c1.2.1 c1.2.2.1 c1.2.2.2.1 c1.2.2.2.2.1 (by rw [vT]; exact c1.2.2.2.2.2) ?_
 refine Ac (wp rfl (qw 2 rfl (BY rfl (Ac ?_))))
 refine Bb h (fun h => ?_) fun h => ?_
 ·refine wq rfl (qm rfl (qe rfl ?_))
  obtain rfl := sj h
  refine Af ((NM Al p0 6 90000 3 rfl rfl).trans (sm [] [(6, oD (.view 90000 3 0 p0.length))] [(90000, .vec 3 (p0.map Al))] rfl rfl)) (As ?_)
  exact ⟨⟨[_], tm, rfl⟩, ⟨rfl, tv⟩, tv⟩
 ·refine Ak (wq rfl (qm rfl (D1 A0 rfl (qa rfl (Ac (wq rfl (qw 2 rfl ?_)))))))
  obtain ⟨c3, h⟩ := ET h
  have w4 : 0 + ((p1).toNat) ≤ p0.length := by have := c3.2.1; have := c3.2.2; omega
  refine Hb Al p0 (.p rfl) rfl (G8 Al _ _ p0) rfl A0 Az (.none _) (.some _ _ _ _ c3.1) tv ⟨rfl, tv⟩ c3.2.1 (by rw [uT]; exact c3.2.2) (uT _) rfl ?_
  refine qw 2 rfl ?_
  obtain ⟨c5, h⟩ := ET h
  have w6 : ((p2).toNat) + ((p0.length - (p2).toNat)) ≤ p0.length := by have := c5.2.1; have := c5.2.2; omega
  refine Hb Al p0 (.p rfl) rfl (G8 Al _ _ p0) rfl A0 Az (.some _ _ _ _ c5.1) (.none _) ⟨rfl, tv⟩ tv c5.2.1 (by rw [uT]; exact c5.2.2) (uT _) rfl ?_
  obtain ⟨c7, h⟩ := ET h
  have w9f : 0 + ((p1).toNat) + (((p0.drop ((p2).toNat)).take ((p0.length - (p2).toNat)))).length ≤ p0.length := by have := c7; omega
  have w8 : (Gv p0 (0 + ((p1).toNat)) (((p0.drop ((p2).toNat)).take ((p0.length - (p2).toNat))))).length = p0.length := Gg w9f
  have w9 : 0 + ((p1).toNat + (((p0.drop ((p2).toNat)).take ((p0.length - (p2).toNat)))).length) ≤ (Gv p0 (0 + ((p1).toNat)) (((p0.drop ((p2).toNat)).take ((p0.length - (p2).toNat))))).length := by rw [w8]; have := c7; omega
  refine SU Al p0 (((p0.drop ((p2).toNat)).take ((p0.length - (p2).toNat)))) (.p rfl) rfl (IW Al _ _ 0 ((p1).toNat) p0 w4) rfl rfl (P2 Al _ _ ((p2).toNat) ((p0.length - (p2).toNat)) p0 w6) ⟨rfl, tv⟩ A0 A0 Az w9f rfl ?_
  refine qa rfl (AM (by kernel_rfl) (wq rfl (qw 2 rfl ?_)))
  refine TA (.p rfl) rfl A0 ?_
  refine qm rfl ?_
  obtain ⟨c10, h⟩ := ET h
  have w11 : (((((((p1).toNat + (((p0.drop ((p2).toNat)).take ((p0.length - (p2).toNat)))).length)) : Nat) : Int)).toNat) + ((((p0.length : Int)).toNat - ((((((p1).toNat + (((p0.drop ((p2).toNat)).take ((p0.length - (p2).toNat)))).length)) : Nat) : Int)).toNat)) ≤ (Gv p0 (0 + ((p1).toNat)) (((p0.drop ((p2).toNat)).take ((p0.length - (p2).toNat))))).length := by have := c10.2.2.1; have := c10.2.2.2; omega
  refine Hb Al (Gv p0 (0 + ((p1).toNat)) (((p0.drop ((p2).toNat)).take ((p0.length - (p2).toNat))))) (.p rfl) rfl (IW Al _ _ 0 (((p1).toNat + (((p0.drop ((p2).toNat)).take ((p0.length - (p2).toNat)))).length)) (Gv p0 (0 + ((p1).toNat)) (((p0.drop ((p2).toNat)).take ((p0.length - (p2).toNat))))) w9) rfl A0 Az (.some _ _ _ _ c10.1) (.some _ _ _ _ c10.2.1) ⟨rfl, tv⟩ ⟨rfl, tv⟩ c10.2.2.1 (by rw [uT]; exact c10.2.2.2) (uT _) rfl ?_
  have w12 : (Gv (Gv p0 (0 + ((p1).toNat)) (((p0.drop ((p2).toNat)).take ((p0.length - (p2).toNat))))) (((((((p1).toNat + (((p0.drop ((p2).toNat)).take ((p0.length - (p2).toNat)))).length)) : Nat) : Int)).toNat) (uY ((((p0.length : Int)).toNat - ((((((p1).toNat + (((p0.drop ((p2).toNat)).take ((p0.length - (p2).toNat)))).length)) : Nat) : Int)).toNat)) ((Aa.mk (([] : List Int)) (([] : List Int)) (([] : List Int)))))).length = (Gv p0 (0 + ((p1).toNat)) (((p0.drop ((p2).toNat)).take ((p0.length - (p2).toNat))))).length := Gg (by rw [zF3]; exact w11)
  refine OH Al (Gv p0 (0 + ((p1).toNat)) (((p0.drop ((p2).toNat)).take ((p0.length - (p2).toNat))))) ((Aa.mk (([] : List Int)) (([] : List Int)) (([] : List Int)))) rfl rfl (IW Al _ _ (((((((p1).toNat + (((p0.drop ((p2).toNat)).take ((p0.length - (p2).toNat)))).length)) : Nat) : Int)).toNat) ((((p0.length : Int)).toNat - ((((((p1).toNat + (((p0.drop ((p2).toNat)).take ((p0.length - (p2).toNat)))).length)) : Nat) : Int)).toNat)) (Gv p0 (0 + ((p1).toNat)) (((p0.drop ((p2).toNat)).take ((p0.length - (p2).toNat))))) w11) rfl A0 B1 rfl rfl rfl rfl ?_
  refine Ac (wq rfl (qm rfl (qe rfl ?_)))
  obtain rfl := sj h
  refine Af (sm [] [(6, oD (.view 90000 3 0 (((p1).toNat + (((p0.drop ((p2).toNat)).take ((p0.length - (p2).toNat)))).length))))] [(90000, .vec 3 ((Gv (Gv p0 (0 + ((p1).toNat)) (((p0.drop ((p2).toNat)).take ((p0.length - (p2).toNat))))) (((((((p1).toNat + (((p0.drop ((p2).toNat)).take ((p0.length - (p2).toNat)))).length)) : Nat) : Int)).toNat) (uY ((((p0.length : Int)).toNat - ((((((p1).toNat + (((p0.drop ((p2).toNat)).take ((p0.length - (p2).toNat)))).length)) : Nat) : Int)).toNat)) ((Aa.mk (([] : List Int)) (([] : List Int)) (([] : List Int)))))).map Al))] rfl rfl) (As ?_)
  exact ⟨⟨[_], tm, rfl⟩, ⟨rfl, tv⟩, tv⟩
theorem H2 (N : Nat) (p0 : List Aa) (r : (List Aa)) (h : Cs N p0 = some r) : DS uS 81 [oD (.own 90000)] [(.vec 3 (p0.map Al), .vec 3 (r.map Al))] [] (.tup []) := by
 unfold Cs at h
 refine FZ (n := 28) (rs := []) Tryz.func81 rfl rfl rfl (IU rfl) (IU rfl) rfl rfl (IU rfl) rfl (IU rfl) fun w0 S0 GL => ZY ?_
 refine Af (sm [] [(0, oD (.own 90000))] [(90000, .vec 3 (p0.map Al))] rfl rfl) (wq rfl (qm rfl (D1 A0 rfl (Lr rfl (qa rfl (qe rfl ?_))))))
 refine AH (L := Bx N) h (fun v1 => mk [(0, oD (.own 90000)), (2, iD v1.2.1), (3, iD v1.2.2)] [(90000, .vec 3 (v1.1.map Al))]) (fun v2 => mk [] [(90000, .vec 3 (v2.map Al))]) (fun _ _ => rfl) (sm [] _ _ rfl rfl) (fun j1 n1 v1 h => ?_) (fun v2 s h hs => ?_)
 ·unfold Bx at h
  refine wp rfl (qw 2 rfl (AV rfl (Ac ?_)))
  refine Bb h (fun h => ?_) fun h => ?_
  ·refine Ak (AS (AO (Ah Ax rfl (qw 6 rfl ?_))))
   refine B3 h fun v4 a4 b4 h => qI A0 Az a4 (Ag b4) rfl (qJ AZ Az (Ag b4) rfl (qw 2 rfl ?_))
   refine B3 h fun v5 a5 b5 h => qI A0 Az a5 (Ag b5) rfl (qJ AZ Az (Ag b5) rfl ?_)
   refine B3 h fun v6 a6 b6 h => qI A0 Az a6 (Ag b6) rfl ?_
   refine Em rfl rfl rfl rfl (Ag b6) rfl Az rfl (IU rfl) (Ei Al v1.1 _ v4) ?_
   refine B3 h fun v7 a7 b7 h => qI A0 Az a7 (Ag b7) rfl ?_
   refine Em rfl rfl rfl rfl (Ag b7) rfl Az rfl (IU rfl) (Ei Al (v1.1.set ((v1.2.1).toNat) v4) _ v5) ?_
   refine AM (by kernel_rfl) (Ah Ax rfl (qm rfl (A4 rfl (qm rfl (Lr rfl (qa rfl (qe rfl ?_)))))))
   exact sn [] h
  ·refine AT ?_
   exact sn [] h
 ·obtain rfl := sj h
  refine ⟨_, hs.trans (sm [] [] [(90000, .vec 3 (v2.map Al))] rfl rfl), ?_⟩
  exact ⟨⟨[], tv, rfl⟩, ⟨rfl, tv⟩, tv⟩
end Go.Lift
