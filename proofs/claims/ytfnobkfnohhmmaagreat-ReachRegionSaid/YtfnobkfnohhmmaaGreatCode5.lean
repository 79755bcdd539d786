/- Lemmas for ReachRegionSaid, which YtfnobkfnohhmmaaGreatFinZ4 proves. -/
import Derived.Test.YtfnobkfnohhmmaaGreatCode3
namespace Go.Lift
set_option maxRecDepth 10000
open Go.RowKit
open Go.Proofs
theorem Kl (N : Nat) (p0 : Ag) (r : Ae × Int) (h : Er N p0 = some r) : AE Tryz.prog 24 [.e (.agg [sC (p0.fVersions.map Ai), sC (p0.fNow.map Ai), sC (p0.fTarget.map Ai), sC (p0.fTables.map Ao)])] [(1, r.1.fBase.map Ai), (1, r.1.fNext.map Ai), (1, r.1.fHeld.map Bg)] (.tup [.agg [.own 0, .own 1, .own 2], .one (iC r.2)]) := by
 unfold Er at h
 refine Ar (n := 68) (rs := [.cell 2 50, .tmp 3]) Tryz.func24 rfl rfl rfl (A7 rfl) (A7 rfl) rfl fun w0 S0 => ?_
 refine Ab (Aa Ac rfl (qb rfl (qz Cu rfl (qa rfl (Ad (Ab (Ab (Aa Ac rfl (qL Ee DQ rfl ?_)))))))))
 obtain ⟨v1, a1, h⟩ := bind_some h
 refine AH [] (F0 N p0 v1 a1) XY rfl (qa rfl (Ad (Ab (Aa Ac rfl (qm rfl (Cw rfl (Ad ?_)))))))
 refine Ap rfl (fun c2 => ?_) (fun c2 => ?_)
 ·have h := Am c2 h
  refine Ab (Aa Ac rfl (BO Cu HQ rfl (qm rfl (qs Ay rfl (qa rfl (Ad ?_))))))
  obtain rfl := sj h
  refine Al ((AF 2 0 2001 1 _ rfl rfl rfl rfl).trans ((AF 2 1 2002 1 _ rfl rfl rfl rfl).trans ((AF 2 2 2003 1 _ rfl rfl rfl rfl).trans (sm [(1000, 2001), (1001, 2002), (1002, 2003)] [(2, oD (.ptr 2 0)), (3, iD v1)] [(2, .box [.own 1000, .own 1001, .own 1002]), (1000, .vec 1 ((([] : List Int)).map Ai)), (1001, .vec 1 ((([] : List Int)).map Ai)), (1002, .vec 1 ((([] : List Int)).map Bg))] rfl rfl)))) (Az ?_)
  exact ⟨⟨[_, _], ⟨.cellN _ _ _ _ _ _ _ rfl rfl A0 Ay rfl rfl (Jb rfl), ⟨.tmp _ _ rfl, tv⟩⟩, rfl⟩, ⟨rfl, rfl, rfl, tv⟩⟩
 ·have h := An c2 h
  refine Aq (Ab (Aa Ac rfl (qz Cu rfl (Ad (Ab (Ab (Aa Ac rfl (qa rfl (Ad ?_)))))))))
  refine AK (L := B6 N p0) h (fun v3 => mk [(1, oD (.ptr 1 0)), (2, oD (.ptr 2 0)), (5, oD (.ptr 5 0)), (6, iD v3.2.2)] [(1, .box [sC (p0.fVersions.map Ai), sC (p0.fNow.map Ai), sC (p0.fTarget.map Ai), sC (p0.fTables.map Ao)]), (2, .box [.pure (.nil0), .pure (.nil0), .pure (.nil0)]), (5, .box [.own 2004, .own 2005, .pure (.nil0)]), (2004, .vec 1 (v3.1.map Ai)), (2005, .vec 1 (v3.2.1.map Ai))]) (fun v4 => mk [(1, oD (.ptr 1 0)), (2, oD (.ptr 2 0)), (5, oD (.ptr 5 0))] [(1, .box [sC (p0.fVersions.map Ai), sC (p0.fNow.map Ai), sC (p0.fTarget.map Ai), sC (p0.fTables.map Ao)]), (2, .box [.pure (.nil0), .pure (.nil0), .pure (.nil0)]), (5, .box [.own 2006, .own 2007, .pure (.nil0)]), (2006, .vec 1 (v4.1.map Ai)), (2007, .vec 1 (v4.2.map Ai))]) (fun _ _ => rfl) ((AF 5 0 2008 1 _ rfl rfl rfl rfl).trans ((AF 5 1 2009 1 _ rfl rfl rfl rfl).trans (sm [(2004, 2008), (2005, 2009)] _ _ rfl rfl))) (fun j3 n3 v3 h => ?_) (fun v4 s h hs => ?_)
  ·unfold B6 at h
   refine Ab (Ab (Aa Ac rfl (qm rfl (qf BB rfl (ql Bh rfl (AZ AJ rfl (A1 rfl (Ad ?_))))))))
   refine Ap rfl (fun c5 => ?_) (fun c5 => ?_)
   ·have h := Am c5 h
    refine Aq (Ab (AR (Ab (Aa Ac rfl (qf CS rfl (ql Bh rfl (qf GE rfl (ql Bh rfl (qm rfl ?_)))))))))
    obtain ⟨v6, a6, b6, h⟩ := Aj h
    refine qi AJ DA a6 (Ah b6) rfl (qk Cs rfl (D6 AJ DA KE rfl ?_))
    obtain ⟨c7, h⟩ := AN h
    refine Da (f := Ai) AJ AJ DA LQ KE c7 rfl (qf CS rfl (qs UD rfl (AQ (by kernel_rfl) (Aa Ac rfl (qf BH rfl (ql Bh rfl (D6 AJ DA KE rfl ?_)))))))
    obtain ⟨c8, h⟩ := AN h
    refine Da (f := Ai) AJ AJ DA LQ KE c8 rfl (qf BH rfl (qs UD rfl (Ad (Aa Ac rfl (qm rfl (AY rfl (qa rfl (Ad ?_))))))))
    exact Aw _ h (sm [(2004, 30), (2005, 35)] _ _ rfl rfl)
   ·have h := An c5 h
    refine AW ?_
    exact Aw _ h (sm [(2006, 2004), (2007, 2005)] _ _ rfl rfl)
  ·refine Al hs (Ab (Ab (Aa Ac rfl (qa rfl (Ad ?_)))))
   refine AK (L := Bp N p0) h (fun v9 => mk [(1, oD (.ptr 1 0)), (2, oD (.ptr 2 0)), (5, oD (.ptr 5 0)), (7, iD v9.2)] [(1, .box [sC (p0.fVersions.map Ai), sC (p0.fNow.map Ai), sC (p0.fTarget.map Ai), sC (p0.fTables.map Ao)]), (2, .box [.pure (.nil0), .pure (.nil0), .pure (.nil0)]), (5, .box [.own 2010, .own 2011, .own 2012]), (2010, .vec 1 (v4.1.map Ai)), (2011, .vec 1 (v4.2.map Ai)), (2012, .vec 1 (v9.1.map Bg))]) (fun v10 => mk [(2, oD (.ptr 2 0)), (5, oD (.ptr 5 0))] [(2, .box [.pure (.nil0), .pure (.nil0), .pure (.nil0)]), (5, .box [.own 2013, .own 2014, .own 2015]), (2013, .vec 1 (v4.1.map Ai)), (2014, .vec 1 (v4.2.map Ai)), (2015, .vec 1 (v10.map Bg))]) (fun _ _ => rfl) ((AF 5 2 2019 1 _ rfl rfl rfl rfl).trans (sm [(2010, 2006), (2011, 2007), (2012, 2019)] _ _ rfl rfl)) (fun j9 n9 v9 h => ?_) (fun v10 s h hs => ?_)
   ·unfold Bp at h
    refine Ab (Ab (Aa Ac rfl (qm rfl (qf CO rfl (ql He rfl (AZ Ed rfl (A1 rfl (Ad ?_))))))))
    refine Ap rfl (fun c11 => ?_) (fun c11 => ?_)
    ·have h := Am c11 h
     refine Aq (Ab (AR (Ab (Aa Ac rfl (qa rfl (Ad ?_))))))
     refine AU h (fun v12 => mk [(1, oD (.ptr 1 0)), (2, oD (.ptr 2 0)), (5, oD (.ptr 5 0)), (7, iD v9.2), (8, pD (.val (.int .u8 v12)))] [(1, .box [sC (p0.fVersions.map Ai), sC (p0.fNow.map Ai), sC (p0.fTarget.map Ai), sC (p0.fTables.map Ao)]), (2, .box [.pure (.nil0), .pure (.nil0), .pure (.nil0)]), (5, .box [.own 2016, .own 2017, .own 2018]), (2016, .vec 1 (v4.1.map Ai)), (2017, .vec 1 (v4.2.map Ai)), (2018, .vec 1 (v9.1.map Bg))]) (fun j12 h => ?_) (fun v12 h => ?_)
     ·refine Ab (Aa Ac rfl (qf CO rfl (ql He rfl (qm rfl ?_))))
      obtain ⟨v13, a13, b13, h⟩ := Aj h
      refine qi Ed Eb a13 (Ah b13) rfl (qK Hn Eb rfl ?_)
      obtain ⟨v14, a14, h⟩ := bind_some h
      refine AH [] (Cm N v13 v14 a14) P5 rfl (Ad ?_)
      refine Ap rfl (fun c15 => ?_) (fun c15 => ?_)
      ·have h := Am c15 h
       refine Aa Ac rfl (qf GE rfl (ql Bh rfl (qf CO rfl (ql He rfl (qm rfl ?_)))))
       obtain ⟨v16, a16, b16, h⟩ := Aj h
       refine qi Ed Eb a16 (Ah b16) rfl (qg Db rfl (qk Cs rfl ?_))
       obtain ⟨v17, a17, b17, h⟩ := Aj h
       refine qi AJ DA a17 (Ah b17) rfl (qk Cs rfl ?_)
       obtain ⟨c18, h⟩ := AN h
       refine HA rfl c18 (qa rfl (AQ (by kernel_rfl) ?_))
       exact Aw _ h (sm [(2016, 2010), (2017, 2011), (2018, 2012)] _ _ rfl rfl)
      ·have h := An c15 h
       refine Aq ?_
       exact Aw _ h (sm [(2016, 2010), (2017, 2011), (2018, 2012)] _ _ rfl rfl)
     ·refine Aa Ac rfl (qf CC rfl (ql GN rfl (qm rfl (D6 C4 FE PP rfl ?_))))
      obtain ⟨c19, h⟩ := AN h
      refine Da (f := Bg) C4 C4 FE QB PP c19 rfl (qf CC rfl (qs Zs rfl (Ad (Aa Ac rfl (qm rfl (AY rfl (qa rfl (Ad ?_))))))))
      exact Aw _ h (sm [(2010, 2016), (2011, 2017), (2012, 65)] _ _ rfl rfl)
    ·have h := An c11 h
     refine AW ?_
     exact Aw _ h (sm [(2013, 2010), (2014, 2011), (2015, 2012)] _ _ rfl rfl)
   ·refine Al hs (Ab (Aa Ac rfl (qL A0 Ay rfl (qs Ay rfl (qa rfl (Ad ?_))))))
    obtain rfl := sj h
    refine Al (sm [(1000, 2013), (1001, 2014), (1002, 2015)] [(2, oD (.ptr 2 0)), (3, iD 0)] [(2, .box [.own 1000, .own 1001, .own 1002]), (1000, .vec 1 (v4.1.map Ai)), (1001, .vec 1 (v4.2.map Ai)), (1002, .vec 1 (v10.map Bg))] rfl rfl) (Az ?_)
    exact ⟨⟨[_, _], ⟨.cellN _ _ _ _ _ _ _ rfl rfl A0 Ay rfl rfl (Jb rfl), ⟨.tmp _ _ rfl, tv⟩⟩, rfl⟩, ⟨rfl, rfl, rfl, tv⟩⟩
theorem JM (N : Nat) (p0 : Ae) (r : Ae) (h : Ea N p0 = some r) : AE Tryz.prog 67 [.e (.agg [sC (p0.fBase.map Ai), sC (p0.fNext.map Ai), sC (p0.fHeld.map Bg)])] [(1, r.fBase.map Ai), (1, r.fNext.map Ai), (1, r.fHeld.map Bg)] (.e (.agg [.own 0, .own 1, .own 2])) := by
 unfold Ea at h
 refine Ar (n := 16) (rs := [.cell 2 50]) Tryz.func67 rfl rfl rfl (A7 rfl) (A7 rfl) rfl fun w0 S0 => ?_
 refine Ab (Aa Ac rfl (qb rfl (qz Cu rfl (Ad (Ab (Aa Ac rfl (D6 AJ DA KE rfl (qf CS rfl (ql Bh rfl ?_)))))))))
 obtain ⟨c1, h⟩ := AN h
 refine J5 (f := Ai) AJ AJ DA LQ KE (fun _ => rfl) c1 rfl (D6 AJ DA KE rfl (qf BH rfl (ql Bh rfl ?_)))
 obtain ⟨c2, h⟩ := AN h
 refine J5 (f := Ai) AJ AJ DA LQ KE (fun _ => rfl) c2 rfl (D6 C4 FE PP rfl (qf CC rfl (ql GN rfl ?_)))
 obtain ⟨c3, h⟩ := AN h
 refine J5 (f := Bg) C4 C4 FE QB PP (fun _ => rfl) c3 rfl (BO Cu HQ rfl (qs Ay rfl (AQ (by kernel_rfl) ?_)))
 obtain rfl := sj h
 refine Al (sm [(1000, 6), (1001, 10), (1002, 14)] [(2, oD (.ptr 2 0))] [(2, .box [.own 1000, .own 1001, .own 1002]), (1000, .vec 1 (((([] : List Int)) ++ p0.fBase).map Ai)), (1001, .vec 1 (((([] : List Int)) ++ p0.fNext).map Ai)), (1002, .vec 1 (((([] : List Int)) ++ p0.fHeld).map Bg))] rfl rfl) (Az ?_)
 exact ⟨⟨[_], ⟨.cellN _ _ _ _ _ _ _ rfl rfl A0 Ay rfl rfl (Jb rfl), tv⟩, rfl⟩, ⟨rfl, rfl, rfl, tv⟩⟩
theorem K7 (N : Nat) (p0 : Ae) (r : (List Ae)) (h : Ef N p0 = some r) : AE Tryz.prog 43 [.e (.agg [sC (p0.fBase.map Ai), sC (p0.fNext.map Ai), sC (p0.fHeld.map Bg)])] [(3, r.map Af)] (oD (.own 0)) := by
 unfold Ef at h
 refine Ar (n := 62) (rs := [.tmp 2]) Tryz.func43 rfl rfl rfl (A7 rfl) (A7 rfl) rfl fun w0 S0 => ?_
 refine Ab (Aa Ac rfl (qb rfl (qa rfl (Ad (Ab (Aa Ac rfl (qa rfl (Ad (Ab (Ab (Aa Ac rfl (qa rfl (Ad ?_)))))))))))))
 refine AK (L := Cv N p0) h (fun v1 => mk [(1, oD (.ptr 1 0)), (3, iD v1.1), (4, iD v1.2)] [(1, .box [sC (p0.fBase.map Ai), sC (p0.fNext.map Ai), sC (p0.fHeld.map Bg)])]) (fun v2 => mk [(1, oD (.ptr 1 0)), (3, iD v2)] [(1, .box [sC (p0.fBase.map Ai), sC (p0.fNext.map Ai), sC (p0.fHeld.map Bg)])]) (fun _ _ => rfl) (sm [] _ _ rfl rfl) (fun j1 n1 v1 h => ?_) (fun v2 s h hs => ?_)
 ·unfold Cv at h
  refine Ab (Ab (Aa Ac rfl (qm rfl (qf BH rfl (ql Bh rfl (AZ AJ rfl (A1 rfl (Ad ?_))))))))
  refine Ap rfl (fun c3 => ?_) (fun c3 => ?_)
  ·have h := Am c3 h
   refine Aq ?_
   refine AU h (fun v4 => mk [(1, oD (.ptr 1 0)), (3, iD v4), (4, iD v1.2)] [(1, .box [sC (p0.fBase.map Ai), sC (p0.fNext.map Ai), sC (p0.fHeld.map Bg)])]) (fun j4 h => ?_) (fun v4 h => ?_)
   ·refine AR (Ab (Aa Ac rfl (qf BH rfl (ql Bh rfl (qm rfl ?_)))))
    obtain ⟨v5, a5, b5, h⟩ := Aj h
    refine qi AJ DA a5 (Ah b5) rfl (qk Cs rfl (Dz rfl (Ad ?_)))
    refine Ap rfl (fun c6 => ?_) (fun c6 => ?_)
    ·have h := Am c6 h
     refine Aa Ac rfl (qm rfl (AY rfl (qa rfl (Ad ?_))))
     exact Aw _ h (sm [] _ _ rfl rfl)
    ·have h := An c6 h
     refine Aq ?_
     exact Aw _ h (sm [] _ _ rfl rfl)
   ·refine Aa Ac rfl (qm rfl (AY rfl (qa rfl (Ad ?_))))
    exact Aw _ h (sm [] _ _ rfl rfl)
  ·have h := An c3 h
   refine AW ?_
   exact Aw _ h (sm [] _ _ rfl rfl)
 ·refine Al hs (Ab (Aa Ac rfl (qa rfl (Ad (Ab (Ab (Aa Ac rfl (qa rfl (Ad ?_)))))))))
  refine AK (L := BE N p0 v2) h (fun v7 => mk [(1, oD (.ptr 1 0)), (3, iD v2), (5, oD (.own 2001)), (6, iD v7.2)] [(1, .box [sC (p0.fBase.map Ai), sC (p0.fNext.map Ai), sC (p0.fHeld.map Bg)]), (2001, .vec 3 (v7.1.map Af))]) (fun v8 => mk [(5, oD (.own 2002))] [(2002, .vec 3 (v8.map Af))]) (fun _ _ => rfl) ((Bn 5 2022 3 rfl rfl rfl).trans (sm [(2001, 2022)] _ _ rfl rfl)) (fun j7 n7 v7 h => ?_) (fun v8 s h hs => ?_)
  ·unfold BE at h
   refine Ab (Ab (Aa Ac rfl (qm rfl (qm rfl ?_))))
   obtain ⟨c9, h⟩ := AN h
   refine HA rfl c9 (A1 rfl (Ad ?_))
   refine Ap rfl (fun c10 => ?_) (fun c10 => ?_)
   ·have h := Am c10 h
    refine Aq (Ab (AR (Ab (Aa Ac rfl (qL A0 Ay rfl ?_)))))
    obtain ⟨v11, a11, h⟩ := bind_some h
    refine AH [2003, 2004, 2005] (JM N p0 v11 a11) Zg rfl (qz Cu rfl (qs Ay rfl (Ad (Ab (Aa Ac rfl (qa rfl (Ad (Ab (Ab (Aa Ac rfl (qa rfl (Ad ?_))))))))))))
    refine AK (L := BQ N p0 v7) h (fun v12 => mk [(1, oD (.ptr 1 0)), (3, iD v2), (5, oD (.own 2009)), (6, iD v7.2), (7, oD (.ptr 7 0)), (8, iD v12.2.1), (9, iD v12.2.2)] [(1, .box [sC (p0.fBase.map Ai), sC (p0.fNext.map Ai), sC (p0.fHeld.map Bg)]), (7, .box [.own 2006, .own 2007, .own 2008]), (2006, .vec 1 (v11.fBase.map Ai)), (2007, .vec 1 (v12.1.map Ai)), (2008, .vec 1 (v11.fHeld.map Bg)), (2009, .vec 3 (v7.1.map Af))]) (fun v13 => mk [(1, oD (.ptr 1 0)), (3, iD v2), (5, oD (.own 2013)), (6, iD v7.2), (7, oD (.ptr 7 0))] [(1, .box [sC (p0.fBase.map Ai), sC (p0.fNext.map Ai), sC (p0.fHeld.map Bg)]), (7, .box [.own 2010, .own 2011, .own 2012]), (2010, .vec 1 (v11.fBase.map Ai)), (2011, .vec 1 (v13.map Ai)), (2012, .vec 1 (v11.fHeld.map Bg)), (2013, .vec 3 (v7.1.map Af))]) (fun _ _ => rfl) (sm [(2006, 2003), (2007, 2004), (2008, 2005), (2009, 2001)] _ _ rfl rfl) (fun j12 n12 v12 h => ?_) (fun v13 s h hs => ?_)
    ·unfold BQ at h
     refine Ab (Ab (Aa Ac rfl (qm rfl (qf BH rfl (ql Bh rfl (AZ AJ rfl (A1 rfl (Ad ?_))))))))
     refine Ap rfl (fun c14 => ?_) (fun c14 => ?_)
     ·have h := Am c14 h
      refine Aq ?_
      refine AU h (fun v15 => mk [(1, oD (.ptr 1 0)), (3, iD v2), (5, oD (.own 2017)), (6, iD v7.2), (7, oD (.ptr 7 0)), (8, iD v15.2), (9, iD v12.2.2)] [(1, .box [sC (p0.fBase.map Ai), sC (p0.fNext.map Ai), sC (p0.fHeld.map Bg)]), (7, .box [.own 2014, .own 2015, .own 2016]), (2014, .vec 1 (v11.fBase.map Ai)), (2015, .vec 1 (v15.1.map Ai)), (2016, .vec 1 (v11.fHeld.map Bg)), (2017, .vec 3 (v7.1.map Af))]) (fun j15 h => ?_) (fun v15 h => ?_)
      ·refine AR (Ab (Ab (Aa Ac rfl (qf BH rfl (ql Bh rfl (qm rfl ?_))))))
       obtain ⟨v16, a16, b16, h⟩ := Aj h
       refine qi AJ DA a16 (Ah b16) rfl (qk Cs rfl (A1 rfl (Ad ?_)))
       refine Ap rfl (fun c17 => ?_) (fun c17 => ?_)
       ·have h := Am c17 h
        refine AW ?_
        exact Aw _ h (sm [(2014, 2006), (2015, 2007), (2016, 2008), (2017, 2009)] _ _ rfl rfl)
       ·have h := An c17 h
        refine Aq ?_
        refine AU h (fun v18 => mk [(1, oD (.ptr 1 0)), (3, iD v2), (5, oD (.own 2021)), (6, iD v7.2), (7, oD (.ptr 7 0)), (8, iD v12.2.1), (9, iD v12.2.2)] [(1, .box [sC (p0.fBase.map Ai), sC (p0.fNext.map Ai), sC (p0.fHeld.map Bg)]), (7, .box [.own 2018, .own 2019, .own 2020]), (2018, .vec 1 (v11.fBase.map Ai)), (2019, .vec 1 (v18.map Ai)), (2020, .vec 1 (v11.fHeld.map Bg)), (2021, .vec 3 (v7.1.map Af))]) (fun j18 h => ?_) (fun v18 h => ?_)
        ·refine Ab (Aa Ac rfl (qm rfl (qm rfl ?_)))
         obtain ⟨c19, h⟩ := AN h
         refine Hi rfl c19 (Ky rfl (by decide) (BM rfl (Ad ?_)))
         refine Ap rfl (fun c20 => ?_) (fun c20 => ?_)
         ·have h := Am c20 h
          refine Aa Ac rfl (qf BH rfl (ql Bh rfl (qm rfl ?_)))
          obtain ⟨v21, a21, b21, h⟩ := Aj h
          refine qI AJ DA a21 (Ah b21) rfl ?_
          refine Bd rfl rfl rfl rfl (Ah b21) rfl DA rfl (A7 rfl) (Bc Ai v12.1 _ ((-1))) ?_
          refine Ad ?_
          exact Aw _ h (sm [(2018, 2006), (2019, 2007), (2020, 2008), (2021, 2009)] _ _ rfl rfl)
         ·have h := An c20 h
          refine Aq ?_
          exact Aw _ h (sm [(2018, 2006), (2019, 2007), (2020, 2008), (2021, 2009)] _ _ rfl rfl)
        ·refine Aa Ac rfl (qm rfl (AY rfl (qa rfl (Ad ?_))))
         exact Aw _ h (sm [(2014, 2018), (2015, 2019), (2016, 2020), (2017, 2021)] _ _ rfl rfl)
      ·refine Aa Ac rfl (qm rfl (AY rfl (qa rfl (Ad ?_))))
       exact Aw _ h (sm [(2006, 2014), (2007, 2015), (2008, 2016), (2009, 2017)] _ _ rfl rfl)
     ·have h := An c14 h
      refine AW ?_
      exact Aw _ h (sm [(2010, 2006), (2011, 2007), (2012, 2008), (2013, 2009)] _ _ rfl rfl)
    ·refine Al hs (Aa Ac rfl (qm rfl (qL A0 Ay rfl (CL (A4 2010 _ _ rfl rfl) (CL (A4 2011 _ _ rfl rfl) (CL (A4 2012 _ _ rfl rfl) (D6 AM Ay Cu rfl ?_)))))))
     obtain ⟨c22, h⟩ := AN h
     refine Da (f := Af) AM AM Ay JN Cu c22 rfl (qa rfl (Ad (Aa Ac rfl (qm rfl (AY rfl (qa rfl (Ad ?_)))))))
     exact Aw _ h (sm [(2001, 60)] _ _ rfl rfl)
   ·have h := An c10 h
    refine AW ?_
    exact Aw _ h (sm [(2002, 2001)] _ _ rfl rfl)
  ·refine Al hs (Ab (Aa Ac rfl (qm rfl (qa rfl (Ad ?_)))))
   obtain rfl := sj h
   refine Al (sm [(1000, 2002)] [(2, oD (.own 1000))] [(1000, .vec 3 (v8.map Af))] rfl rfl) (Az ?_)
   exact ⟨⟨[_], ⟨.tmp _ _ rfl, tv⟩, rfl⟩, ⟨rfl, tv⟩⟩
theorem D8 (N : Nat) (p0 : Ae) (p1 : Int) (r : Int) (h : BR N p0 p1 = some r) : AE Tryz.prog 52 [.e (.agg [sC (p0.fBase.map Ai), sC (p0.fNext.map Ai), sC (p0.fHeld.map Bg)]), iD p1] [] (pD (.val (.int .u8 r))) := by
 unfold BR at h
 refine Ar (n := 27) (rs := [.tmp 4]) Tryz.func52 rfl rfl rfl (A7 rfl) (A7 rfl) rfl fun w0 S0 => ?_
 refine Ab (Aa Ac rfl (qb rfl (qa rfl (Ad (Ab (Aa Ac rfl (qf CS rfl (ql Bh rfl (qm rfl ?_)))))))))
 obtain ⟨v1, a1, b1, h⟩ := Aj h
 refine qi AJ DA a1 (Ah b1) rfl (qk Cs rfl ?_)
 obtain ⟨c2, h⟩ := AN h
 refine HA rfl c2 (qa rfl (Ad ?_))
 refine AU h (fun v3 => mk [(5, pD (.val (.int .u8 v3)))] []) (fun j3 h => ?_) (fun v3 h => ?_)
 ·refine Ab (Aa Ac rfl (qf BH rfl (ql Bh rfl (qm rfl ?_))))
  obtain ⟨v4, a4, b4, h⟩ := Aj h
  refine qi AJ DA a4 (Ah b4) rfl (qk Cs rfl (Dz rfl (Ad ?_)))
  refine Ap rfl (fun c5 => ?_) (fun c5 => ?_)
  ·have h := Am c5 h
   refine Aa Ac rfl (qm rfl (qf BH rfl (ql Bh rfl (qm rfl ?_))))
   obtain ⟨v6, a6, b6, h⟩ := Aj h
   refine qi AJ DA a6 (Ah b6) rfl (qk Cs rfl ?_)
   obtain ⟨c7, h⟩ := AN h
   refine HA rfl c7 (Tn rfl (qa rfl (Ad ?_)))
   exact Aw _ h (sm [] _ _ rfl rfl)
  ·have h := An c5 h
   refine Aq ?_
   exact Aw _ h (sm [] _ _ rfl rfl)
 ·refine Ab (Aa Ac rfl (qm rfl (qa rfl (Ad ?_))))
  obtain rfl := sj h
  refine Al (sm [] [(4, pD (.val (.int .u8 v3)))] [] rfl rfl) (Az ?_)
  exact ⟨⟨[_], ⟨.tmp _ _ rfl, tv⟩, rfl⟩, tv⟩
theorem zFS (N : Nat) (p0 : Int) (p1 : Int) (r : Bool) (h : Cr N p0 p1 = some r) : AE Tryz.prog 53 [pD (.val (.int .u8 p0)), iD p1] [] (bD r) := by
 unfold Cr at h
 refine Ar (n := 10) (rs := [.tmp 4]) Tryz.func53 rfl rfl rfl (A7 rfl) (A7 rfl) rfl fun w0 S0 => ?_
 refine Ab (Aa Ac rfl (qa rfl (Ad (Ab (Aa Ac rfl (qm rfl (qm rfl ?_)))))))
 obtain ⟨c1, h⟩ := AN h
 refine Hi rfl c1 (Lh rfl (BM rfl (qa rfl (Ad ?_))))
 obtain rfl := sj h
 refine Al (sm [] [(4, bD (((FB .u8 ((Ei .u8 p0 p1)) 1) == 1)))] [] rfl rfl) (Az ?_)
 exact ⟨⟨[_], ⟨.tmp _ _ rfl, tv⟩, rfl⟩, tv⟩
theorem Kr (N : Nat) (p0 : Ag) (p1 : Ae) (r : (List Av)) (h : Es N p0 p1 = some r) : AE Tryz.prog 69 [.e (.agg [sC (p0.fVersions.map Ai), sC (p0.fNow.map Ai), sC (p0.fTarget.map Ai), sC (p0.fTables.map Ao)]), .e (.agg [sC (p1.fBase.map Ai), sC (p1.fNext.map Ai), sC (p1.fHeld.map Bg)])] [(3, r.map A3)] (oD (.own 0)) := by
 unfold Es at h
 refine Ar (n := 111) (rs := [.tmp 4]) Tryz.func69 rfl rfl rfl (A7 rfl) (A7 rfl) rfl fun w0 S0 => ?_
 refine Ab (Aa Ac rfl (qb rfl (qb rfl (qa rfl (Ad (Ab (Aa Ac rfl (qa rfl (Ad (Ab (Ab (Aa Ac rfl (qa rfl (Ad ?_))))))))))))))
 refine AK (L := Cz N p0 p1) h (fun v1 => mk [(2, oD (.ptr 2 0)), (3, oD (.ptr 3 0)), (5, oD (.own 2001)), (6, iD v1.2)] [(2, .box [sC (p0.fVersions.map Ai), sC (p0.fNow.map Ai), sC (p0.fTarget.map Ai), sC (p0.fTables.map Ao)]), (3, .box [sC (p1.fBase.map Ai), sC (p1.fNext.map Ai), sC (p1.fHeld.map Bg)]), (2001, .vec 3 (v1.1.map A3))]) (fun v2 => mk [(5, oD (.own 2002))] [(2002, .vec 3 (v2.map A3))]) (fun _ _ => rfl) ((Bn 5 2013 3 rfl rfl rfl).trans (sm [(2001, 2013)] _ _ rfl rfl)) (fun j1 n1 v1 h => ?_) (fun v2 s h hs => ?_)
 ·unfold Cz at h
  refine Ab (Ab (Aa Ac rfl (qm rfl (qf CO rfl (ql He rfl (AZ Ed rfl (A1 rfl (Ad ?_))))))))
  refine Ap rfl (fun c3 => ?_) (fun c3 => ?_)
  ·have h := Am c3 h
   refine Aq (Ab (AR (Ab (Aa Ac rfl (qf CO rfl (ql He rfl (qm rfl ?_)))))))
   obtain ⟨v4, a4, b4, h⟩ := Aj h
   refine qi Ed Eb a4 (Ah b4) rfl (qK Hn Eb rfl (qz Km rfl (qs Eb rfl (Ad (Ab (Aa Ac rfl (qL A0 Ay rfl (qf Db rfl (ql Cs rfl ?_)))))))))
   obtain ⟨v5, a5, h⟩ := bind_some h
   refine AH [] (D8 N p1 v4.fFrom v5 a5) Tr rfl (qa rfl (Ad ?_))
   refine AU h (fun v6 => mk [(2, oD (.ptr 2 0)), (3, oD (.ptr 3 0)), (5, oD (.own 2003)), (6, iD v1.2), (7, oD (.ptr 7 0)), (8, pD (.val (.int .u8 v6)))] [(2, .box [sC (p0.fVersions.map Ai), sC (p0.fNow.map Ai), sC (p0.fTarget.map Ai), sC (p0.fTables.map Ao)]), (3, .box [sC (p1.fBase.map Ai), sC (p1.fNext.map Ai), sC (p1.fHeld.map Bg)]), (7, .box [iC v4.fKind, iC v4.fFrom, iC v4.fTo, .pure (.val (.bool v4.fAware)), sC (v4.fOK.map (EN eB)), sC (v4.fRewrite.map (EN eB))]), (2003, .vec 3 (v1.1.map A3))]) (fun j6 h => ?_) (fun v6 h => ?_)
   ·refine Ab (Aa Ac rfl (qL Hn Eb rfl ?_))
    obtain ⟨v7, a7, h⟩ := bind_some h
    refine AH [] (Cm N v4 v7 a7) P5 rfl (Ad ?_)
    refine Ap rfl (fun c8 => ?_) (fun c8 => ?_)
    ·have h := Am c8 h
     refine Aa Ac rfl (qf CC rfl (ql GN rfl (qm rfl ?_)))
     obtain ⟨v9, a9, b9, h⟩ := Aj h
     refine qi C4 FE a9 (Ah b9) rfl (qk Jl rfl (qa rfl (Ad ?_)))
     exact Aw _ h (sm [(2003, 2001)] _ _ rfl rfl)
    ·have h := An c8 h
     refine Aq ?_
     exact Aw _ h (sm [(2003, 2001)] _ _ rfl rfl)
   ·refine Ab (Aa Ac rfl (qa rfl (Ad ?_)))
    refine AK (L := BF N p0 p1 v1 v4 v6) h (fun v10 => mk [(2, oD (.ptr 2 0)), (3, oD (.ptr 3 0)), (5, oD (.own 2004)), (6, iD v1.2), (7, oD (.ptr 7 0)), (8, pD (.val (.int .u8 v6))), (9, iD v10.2)] [(2, .box [sC (p0.fVersions.map Ai), sC (p0.fNow.map Ai), sC (p0.fTarget.map Ai), sC (p0.fTables.map Ao)]), (3, .box [sC (p1.fBase.map Ai), sC (p1.fNext.map Ai), sC (p1.fHeld.map Bg)]), (7, .box [iC v4.fKind, iC v4.fFrom, iC v4.fTo, .pure (.val (.bool v4.fAware)), sC (v4.fOK.map (EN eB)), sC (v4.fRewrite.map (EN eB))]), (2004, .vec 3 (v10.1.map A3))]) (fun v11 => mk [(2, oD (.ptr 2 0)), (3, oD (.ptr 3 0)), (5, oD (.own 2005)), (6, iD v1.2)] [(2, .box [sC (p0.fVersions.map Ai), sC (p0.fNow.map Ai), sC (p0.fTarget.map Ai), sC (p0.fTables.map Ao)]), (3, .box [sC (p1.fBase.map Ai), sC (p1.fNext.map Ai), sC (p1.fHeld.map Bg)]), (2005, .vec 3 (v11.map A3))]) (fun _ _ => rfl) (sm [(2004, 2003)] _ _ rfl rfl) (fun j10 n10 v10 h => ?_) (fun v11 s h hs => ?_)
    ·unfold BF at h
     refine Ab (Ab (Aa Ac rfl (qm rfl (qf BB rfl (ql Bh rfl (qf Db rfl (ql Cs rfl ?_)))))))
     obtain ⟨v12, a12, b12, h⟩ := Aj h
     refine qi AJ DA a12 (Ah b12) rfl (qk Cs rfl (A1 rfl (Ad ?_)))
     refine Ap rfl (fun c13 => ?_) (fun c13 => ?_)
     ·have h := Am c13 h
      refine Aq ?_
      refine AU h (fun v14 => mk [(2, oD (.ptr 2 0)), (3, oD (.ptr 3 0)), (5, oD (.own 2006)), (6, iD v1.2), (7, oD (.ptr 7 0)), (8, pD (.val (.int .u8 v6))), (9, iD v10.2)] [(2, .box [sC (p0.fVersions.map Ai), sC (p0.fNow.map Ai), sC (p0.fTarget.map Ai), sC (p0.fTables.map Ao)]), (3, .box [sC (p1.fBase.map Ai), sC (p1.fNext.map Ai), sC (p1.fHeld.map Bg)]), (7, .box [iC v4.fKind, iC v4.fFrom, iC v4.fTo, .pure (.val (.bool v4.fAware)), sC (v4.fOK.map (EN eB)), sC (v4.fRewrite.map (EN eB))]), (2006, .vec 3 (v14.map A3))]) (fun j14 h => ?_) (fun v14 h => ?_)
      ·refine AR (Ab (Ab (Aa Ac rfl (qm rfl (qm rfl ?_)))))
       obtain ⟨v15, a15, h⟩ := bind_some h
       refine AH [] (zFS N v6 v10.2 v15 a15) VO rfl (B7 rfl (Ad ?_))
       refine Ap rfl (fun c16 => ?_) (fun c16 => ?_)
       ·have h := Am c16 h
        refine AW ?_
        exact Aw _ h (sm [(2006, 2004)] _ _ rfl rfl)
       ·have h := An c16 h
        refine Aq (Ab (Aa Ac rfl (qa rfl (Ad (Ab (Ab (Aa Ac rfl (qa rfl (Ad ?_)))))))))
        refine AK (L := Br N p0 p1 v1 v4 v10) h (fun v17 => mk [(2, oD (.ptr 2 0)), (3, oD (.ptr 3 0)), (5, oD (.own 2007)), (6, iD v1.2), (7, oD (.ptr 7 0)), (8, pD (.val (.int .u8 v6))), (9, iD v10.2), (10, bD v17.2.1), (11, iD v17.2.2)] [(2, .box [sC (p0.fVersions.map Ai), sC (p0.fNow.map Ai), sC (p0.fTarget.map Ai), sC (p0.fTables.map Ao)]), (3, .box [sC (p1.fBase.map Ai), sC (p1.fNext.map Ai), sC (p1.fHeld.map Bg)]), (7, .box [iC v4.fKind, iC v4.fFrom, iC v4.fTo, .pure (.val (.bool v4.fAware)), sC (v4.fOK.map (EN eB)), sC (v4.fRewrite.map (EN eB))]), (2007, .vec 3 (v17.1.map A3))]) (fun v18 => mk [(2, oD (.ptr 2 0)), (3, oD (.ptr 3 0)), (5, oD (.own 2008)), (6, iD v1.2), (7, oD (.ptr 7 0)), (8, pD (.val (.int .u8 v6))), (9, iD v10.2), (10, bD v18.2)] [(2, .box [sC (p0.fVersions.map Ai), sC (p0.fNow.map Ai), sC (p0.fTarget.map Ai), sC (p0.fTables.map Ao)]), (3, .box [sC (p1.fBase.map Ai), sC (p1.fNext.map Ai), sC (p1.fHeld.map Bg)]), (7, .box [iC v4.fKind, iC v4.fFrom, iC v4.fTo, .pure (.val (.bool v4.fAware)), sC (v4.fOK.map (EN eB)), sC (v4.fRewrite.map (EN eB))]), (2008, .vec 3 (v18.1.map A3))]) (fun _ _ => rfl) (sm [(2007, 2004)] _ _ rfl rfl) (fun j17 n17 v17 h => ?_) (fun v18 s h hs => ?_)
        ·unfold Br at h
         refine Ab (Ab (Aa Ac rfl (qm rfl (qf BB rfl (ql Bh rfl (qf H2 rfl (ql Cs rfl ?_)))))))
         obtain ⟨v19, a19, b19, h⟩ := Aj h
         refine qi AJ DA a19 (Ah b19) rfl (qk Cs rfl (A1 rfl (Ad ?_)))
         refine Ap rfl (fun c20 => ?_) (fun c20 => ?_)
         ·have h := Am c20 h
          refine Aq ?_
          refine AU h (fun v21 => mk [(2, oD (.ptr 2 0)), (3, oD (.ptr 3 0)), (5, oD (.own 2009)), (6, iD v1.2), (7, oD (.ptr 7 0)), (8, pD (.val (.int .u8 v6))), (9, iD v10.2), (10, bD v21.2), (11, iD v17.2.2)] [(2, .box [sC (p0.fVersions.map Ai), sC (p0.fNow.map Ai), sC (p0.fTarget.map Ai), sC (p0.fTables.map Ao)]), (3, .box [sC (p1.fBase.map Ai), sC (p1.fNext.map Ai), sC (p1.fHeld.map Bg)]), (7, .box [iC v4.fKind, iC v4.fFrom, iC v4.fTo, .pure (.val (.bool v4.fAware)), sC (v4.fOK.map (EN eB)), sC (v4.fRewrite.map (EN eB))]), (2009, .vec 3 (v21.1.map A3))]) (fun j21 h => ?_) (fun v21 h => ?_)
          ·refine AR (Ab (Ab (Aa Ac rfl (qL A0 Ay rfl (qf H2 rfl (ql Cs rfl ?_))))))
           obtain ⟨v22, a22, h⟩ := bind_some h
           refine AH [] (D8 N p1 v4.fTo v22 a22) Tr rfl (qm rfl ?_)
           obtain ⟨v23, a23, h⟩ := bind_some h
           refine AH [] (zFS N v22 v17.2.2 v23 a23) VO rfl (B7 rfl (Ad ?_))
           refine Ap rfl (fun c24 => ?_) (fun c24 => ?_)
           ·have h := Am c24 h
            refine AW ?_
            exact Aw _ h (sm [(2009, 2007)] _ _ rfl rfl)
           ·have h := An c24 h
            refine Aq ?_
            refine AU h (fun v25 => mk [(2, oD (.ptr 2 0)), (3, oD (.ptr 3 0)), (5, oD (.own 2010)), (6, iD v1.2), (7, oD (.ptr 7 0)), (8, pD (.val (.int .u8 v6))), (9, iD v10.2), (10, bD v25), (11, iD v17.2.2)] [(2, .box [sC (p0.fVersions.map Ai), sC (p0.fNow.map Ai), sC (p0.fTarget.map Ai), sC (p0.fTables.map Ao)]), (3, .box [sC (p1.fBase.map Ai), sC (p1.fNext.map Ai), sC (p1.fHeld.map Bg)]), (7, .box [iC v4.fKind, iC v4.fFrom, iC v4.fTo, .pure (.val (.bool v4.fAware)), sC (v4.fOK.map (EN eB)), sC (v4.fRewrite.map (EN eB))]), (2010, .vec 3 (v17.1.map A3))]) (fun j25 h => ?_) (fun v25 h => ?_)
            ·refine Aa Ac rfl (qm rfl (qm rfl ?_))
             refine AG (t := 67) rfl (fun c26 => ?_) (fun c26 => ?_)
             ·have h := Am c26 h
              refine qn rfl (qn rfl (qn rfl (qn rfl (qn rfl (qn rfl (qn rfl (qn rfl (qp rfl (qa rfl (Ad ?_))))))))))
              exact Aw _ h (sm [(2010, 2007)] _ _ rfl rfl)
             ·have h := An c26 h
              refine qf Jv rfl (ql JL rfl (qm rfl ?_))
              obtain ⟨v27, a27, b27, h⟩ := Aj h
              refine qi Gg Jz a27 (Ah b27) rfl (qk K0 rfl (qm rfl ?_))
              obtain ⟨v28, a28, b28, h⟩ := Aj h
              refine qi Fe QC a28 (Ah b28) rfl (qk Sx rfl (qp rfl (qa rfl (Ad ?_))))
              exact Aw _ h (sm [(2010, 2007)] _ _ rfl rfl)
            ·refine AU h (fun v29 => mk [(2, oD (.ptr 2 0)), (3, oD (.ptr 3 0)), (5, oD (.own 2011)), (6, iD v1.2), (7, oD (.ptr 7 0)), (8, pD (.val (.int .u8 v6))), (9, iD v10.2), (10, bD v25), (11, iD v17.2.2), (90, bD v29)] [(2, .box [sC (p0.fVersions.map Ai), sC (p0.fNow.map Ai), sC (p0.fTarget.map Ai), sC (p0.fTables.map Ao)]), (3, .box [sC (p1.fBase.map Ai), sC (p1.fNext.map Ai), sC (p1.fHeld.map Bg)]), (7, .box [iC v4.fKind, iC v4.fFrom, iC v4.fTo, .pure (.val (.bool v4.fAware)), sC (v4.fOK.map (EN eB)), sC (v4.fRewrite.map (EN eB))]), (2011, .vec 3 (v17.1.map A3))]) (fun j29 h => ?_) (fun v29 h => ?_)
             ·refine Aa Ac rfl (qf IF rfl (ql Sx rfl (B7 rfl (qm rfl ?_))))
              refine AG (t := 80) rfl (fun c30 => ?_) (fun c30 => ?_)
              ·have h := Am c30 h
               refine qf Jv rfl (ql JL rfl (qm rfl ?_))
               obtain ⟨v31, a31, b31, h⟩ := Aj h
               refine qi Gg Jz a31 (Ah b31) rfl (qk K0 rfl (qm rfl ?_))
               obtain ⟨v32, a32, b32, h⟩ := Aj h
               refine qi Fe QC a32 (Ah b32) rfl (qk Sx rfl (B7 rfl (qp rfl (Ad ?_))))
               exact Aw _ h (sm [(2011, 2010)] _ _ rfl rfl)
              ·have h := An c30 h
               refine qn rfl (qn rfl (qn rfl (qn rfl (qn rfl (qn rfl (qn rfl (qn rfl (qn rfl (qp rfl (Ad ?_))))))))))
               exact Aw _ h (sm [(2011, 2010)] _ _ rfl rfl)
             ·refine Ap rfl (fun c33 => ?_) (fun c33 => ?_)
              ·have h := Am c33 h
               refine Aa Ac rfl (qm rfl (qm rfl (qm rfl (qm rfl (BO HT OT rfl (D6 GG HK HT rfl ?_))))))
               obtain ⟨c34, h⟩ := AN h
               refine Da (f := A3) GG GG HK Pn HT c34 rfl (qa rfl (Ad ?_))
               exact Aw _ h (sm [(2009, 97)] _ _ rfl rfl)
              ·have h := An c33 h
               refine Aq ?_
               exact Aw _ h (sm [(2009, 2011)] _ _ rfl rfl)
          ·refine Aa Ac rfl (qm rfl (AY rfl (qa rfl (Ad ?_))))
           exact Aw _ h (sm [(2007, 2009)] _ _ rfl rfl)
         ·have h := An c20 h
          refine AW ?_
          exact Aw _ h (sm [(2008, 2007)] _ _ rfl rfl)
        ·refine Al hs ?_
         refine AU h (fun v35 => mk [(2, oD (.ptr 2 0)), (3, oD (.ptr 3 0)), (5, oD (.own 2012)), (6, iD v1.2), (7, oD (.ptr 7 0)), (8, pD (.val (.int .u8 v6))), (9, iD v10.2), (103, bD v35)] [(2, .box [sC (p0.fVersions.map Ai), sC (p0.fNow.map Ai), sC (p0.fTarget.map Ai), sC (p0.fTables.map Ao)]), (3, .box [sC (p1.fBase.map Ai), sC (p1.fNext.map Ai), sC (p1.fHeld.map Bg)]), (7, .box [iC v4.fKind, iC v4.fFrom, iC v4.fTo, .pure (.val (.bool v4.fAware)), sC (v4.fOK.map (EN eB)), sC (v4.fRewrite.map (EN eB))]), (2012, .vec 3 (v18.1.map A3))]) (fun j35 h => ?_) (fun v35 h => ?_)
         ·refine Aa Ac rfl (qf IF rfl (ql Sx rfl (qm rfl ?_)))
          refine AG (t := 100) rfl (fun c36 => ?_) (fun c36 => ?_)
          ·have h := Am c36 h
           refine qm rfl (B7 rfl (qp rfl (Ad ?_)))
           exact Aw _ h (sm [(2012, 2008)] _ _ rfl rfl)
          ·have h := An c36 h
           refine qn rfl (qn rfl (qp rfl (Ad ?_)))
           exact Aw _ h (sm [(2012, 2008)] _ _ rfl rfl)
         ·refine Ap rfl (fun c37 => ?_) (fun c37 => ?_)
          ·have h := Am c37 h
           refine Aa Ac rfl (qm rfl (qm rfl (qm rfl (BO HT OT rfl (D6 GG HK HT rfl ?_)))))
           obtain ⟨c38, h⟩ := AN h
           refine Da (f := A3) GG GG HK Pn HT c38 rfl (qa rfl (Ad ?_))
           exact Aw _ h (sm [(2006, 109)] _ _ rfl rfl)
          ·have h := An c37 h
           refine Aq ?_
           exact Aw _ h (sm [(2006, 2012)] _ _ rfl rfl)
      ·refine Aa Ac rfl (qm rfl (AY rfl (qa rfl (Ad ?_))))
       exact Aw _ h (sm [(2004, 2006)] _ _ rfl rfl)
     ·have h := An c13 h
      refine AW ?_
      exact Aw _ h (sm [(2005, 2004)] _ _ rfl rfl)
    ·refine Al hs (Aa Ac rfl (qm rfl (AY rfl (qa rfl (Ad ?_)))))
     exact Aw _ h (sm [(2001, 2005)] _ _ rfl rfl)
  ·have h := An c3 h
   refine AW ?_
   exact Aw _ h (sm [(2002, 2001)] _ _ rfl rfl)
 ·refine Al hs (Ab (Aa Ac rfl (qm rfl (qa rfl (Ad ?_)))))
  obtain rfl := sj h
  refine Al (sm [(1000, 2002)] [(4, oD (.own 1000))] [(1000, .vec 3 (v2.map A3))] rfl rfl) (Az ?_)
  exact ⟨⟨[_], ⟨.tmp _ _ rfl, tv⟩, rfl⟩, ⟨rfl, tv⟩⟩
theorem JE (N : Nat) (p0 : Ag) (p1 : Ae) (r : Bool) (h : D7 N p0 p1 = some r) : AE Tryz.prog 46 [.e (.agg [sC (p0.fVersions.map Ai), sC (p0.fNow.map Ai), sC (p0.fTarget.map Ai), sC (p0.fTables.map Ao)]), .e (.agg [sC (p1.fBase.map Ai), sC (p1.fNext.map Ai), sC (p1.fHeld.map Bg)])] [] (bD r) := by
 unfold D7 at h
 refine Ar (n := 10) (rs := [.tmp 4]) Tryz.func46 rfl rfl rfl (A7 rfl) (A7 rfl) rfl fun w0 S0 => ?_
 refine Ab (Aa Ac rfl (qb rfl (qb rfl (qa rfl (Ad (Ab (Aa Ac rfl (qL Ee DQ rfl (qL A0 Ay rfl ?_)))))))))
 obtain ⟨v1, a1, h⟩ := bind_some h
 refine AH [2001] (Kr N p0 p1 v1 a1) Y3 rfl (Dh GG rfl (BM rfl (qa rfl (Ad ?_))))
 obtain rfl := sj h
 refine Al (sm [] [(4, bD (((v1.length : Int) == 0)))] [] rfl rfl) (Az ?_)
 exact ⟨⟨[_], ⟨.tmp _ _ rfl, tv⟩, rfl⟩, tv⟩
theorem Fz (N : Nat) (p0 : Ag) (p1 : Ae) (r : Bool) (h : Cx N p0 p1 = some r) : AE Tryz.prog 19 [.e (.agg [sC (p0.fVersions.map Ai), sC (p0.fNow.map Ai), sC (p0.fTarget.map Ai), sC (p0.fTables.map Ao)]), .e (.agg [sC (p1.fBase.map Ai), sC (p1.fNext.map Ai), sC (p1.fHeld.map Bg)])] [] (bD r) := by
 unfold Cx at h
 refine Ar (n := 22) (rs := [.tmp 4]) Tryz.func19 rfl rfl rfl (A7 rfl) (A7 rfl) rfl fun w0 S0 => ?_
 refine Ab (Aa Ac rfl (qb rfl (qb rfl (qa rfl (Ad (Ab (Aa Ac rfl (qL A0 Ay rfl ?_))))))))
 obtain ⟨v1, a1, h⟩ := bind_some h
 refine AH [2001] (K7 N p1 v1 a1) Zr rfl (qa rfl (Ad (Ab (Ab (Aa Ac rfl (qa rfl (Ad ?_)))))))
 refine AK (L := B2 N p0 v1) h (fun v2 => mk [(2, oD (.ptr 2 0)), (5, oD (.own 2002)), (6, iD v2)] [(2, .box [sC (p0.fVersions.map Ai), sC (p0.fNow.map Ai), sC (p0.fTarget.map Ai), sC (p0.fTables.map Ao)]), (2002, .vec 3 (v1.map Af))]) (fun v3 => mk [] []) (fun _ _ => rfl) (sm [(2002, 2001)] _ _ rfl rfl) (fun j2 n2 v2 h => ?_) (fun v3 s h hs => ?_)
 ·unfold B2 at h
  refine Ab (Ab (Aa Ac rfl (qm rfl (qm rfl (Dh AM rfl (A1 rfl (Ad ?_)))))))
  refine Ap rfl (fun c4 => ?_) (fun c4 => ?_)
  ·have h := Am c4 h
   refine Aq (Ab (AR (Ab (Aa Ac rfl (qL Ee DQ rfl (qm rfl (qm rfl ?_)))))))
   obtain ⟨v5, a5, b5, h⟩ := Aj h
   refine qI AM Ay a5 (Ah b5) rfl (qJ A0 Ay (Ah b5) rfl ?_)
   obtain ⟨v6, a6, h⟩ := bind_some h
   refine AH [] (JE N p0 v5 v6 a6) YL rfl (B7 rfl (AQ (by kernel_rfl) ?_))
   refine Ap rfl (fun c7 => ?_) (fun c7 => ?_)
   ·have h := Am c7 h
    refine Ab (Aa Ac rfl (qa rfl (Ad ?_)))
    obtain rfl := sj h
    refine Al (sm [] [(4, bD false)] [] rfl rfl) (Az ?_)
    exact ⟨⟨[_], ⟨.tmp _ _ rfl, tv⟩, rfl⟩, tv⟩
   ·have h := An c7 h
    refine Aq (Aa Ac rfl (qm rfl (AY rfl (qa rfl (Ad ?_)))))
    exact Aw _ h (sm [] _ _ rfl rfl)
  ·have h := An c4 h
   refine AW ?_
   exact Aw _ h (sm [] _ _ rfl rfl)
 ·refine Al hs (Ab (Aa Ac rfl (qa rfl (Ad ?_))))
  obtain rfl := sj h
  refine Al (sm [] [(4, bD true)] [] rfl rfl) (Az ?_)
  exact ⟨⟨[_], ⟨.tmp _ _ rfl, tv⟩, rfl⟩, tv⟩
theorem Kq (N : Nat) (p0 : Ag) (p1 : Ae) (r : Int) (h : Em N p0 p1 = some r) : AE Tryz.prog 65 [.e (.agg [sC (p0.fVersions.map Ai), sC (p0.fNow.map Ai), sC (p0.fTarget.map Ai), sC (p0.fTables.map Ao)]), .e (.agg [sC (p1.fBase.map Ai), sC (p1.fNext.map Ai), sC (p1.fHeld.map Bg)])] [] (iD r) := by
 unfold Em at h
 refine Ar (n := 154) (rs := [.tmp 4]) Tryz.func65 rfl rfl rfl (A7 rfl) (A7 rfl) rfl fun w0 S0 => ?_
 refine Ab (Aa Ac rfl (qb rfl (qb rfl (qa rfl (Ad (Ab (Ab (Aa Ac rfl (qL Ee DQ rfl ?_)))))))))
 obtain ⟨v1, a1, h⟩ := bind_some h
 refine AH [] (F0 N p0 v1 a1) XY rfl (qa rfl (Ad (Ab (Aa Ac rfl (qm rfl (Cw rfl (Ad ?_)))))))
 refine Ap rfl (fun c2 => ?_) (fun c2 => ?_)
 ·have h := Am c2 h
  refine Ab (Aa Ac rfl (qm rfl (qa rfl (Ad ?_))))
  obtain rfl := sj h
  refine Al (sm [] [(4, iD v1)] [] rfl rfl) (Az ?_)
  exact ⟨⟨[_], ⟨.tmp _ _ rfl, tv⟩, rfl⟩, tv⟩
 ·have h := An c2 h
  refine Aq (Ab (Aa Ac rfl (qf BB rfl (ql Bh rfl (AZ AJ rfl (qa rfl (Ad (Ab ?_))))))))
  refine AU h (fun v3 => mk [(2, oD (.ptr 2 0)), (3, oD (.ptr 3 0)), (6, iD ((p0.fVersions.length : Int))), (39, bD v3)] [(2, .box [sC (p0.fVersions.map Ai), sC (p0.fNow.map Ai), sC (p0.fTarget.map Ai), sC (p0.fTables.map Ao)]), (3, .box [sC (p1.fBase.map Ai), sC (p1.fNext.map Ai), sC (p1.fHeld.map Bg)])]) (fun j3 h => ?_) (fun v3 h => ?_)
  ·refine Aa Ac rfl (qf CS rfl (ql Bh rfl (AZ AJ rfl (qm rfl (Cw rfl (qm rfl ?_))))))
   refine AG (t := 24) rfl (fun c4 => ?_) (fun c4 => ?_)
   ·have h := Am c4 h
    refine qn rfl (qn rfl (qn rfl (qn rfl (qn rfl (qp rfl (qm rfl (qn rfl (qn rfl (qn rfl (qn rfl (qn rfl (qn rfl (qn rfl (qp rfl (Ad ?_)))))))))))))))
    exact Aw _ h (sm [] _ _ rfl rfl)
   ·have h := An c4 h
    refine qf BH rfl (ql Bh rfl (AZ AJ rfl (qm rfl (Cw rfl (qp rfl (qm rfl ?_))))))
    refine AG (t := 31) rfl (fun c5 => ?_) (fun c5 => ?_)
    ·have h := Am c5 h
     refine qn rfl (qn rfl (qn rfl (qn rfl (qn rfl (qn rfl (qn rfl (qp rfl (Ad ?_))))))))
     exact Aw _ h (sm [] _ _ rfl rfl)
    ·have h := An c5 h
     refine qf CC rfl (ql GN rfl (AZ C4 rfl (qf CO rfl (ql He rfl (AZ Ed rfl (Cw rfl (qp rfl (Ad ?_))))))))
     exact Aw _ h (sm [] _ _ rfl rfl)
  ·refine Ap rfl (fun c6 => ?_) (fun c6 => ?_)
   ·have h := Am c6 h
    refine Ab (Aa Ac rfl (qa rfl (Ad ?_)))
    obtain rfl := sj h
    refine Al (sm [] [(4, iD 6)] [] rfl rfl) (Az ?_)
    exact ⟨⟨[_], ⟨.tmp _ _ rfl, tv⟩, rfl⟩, tv⟩
   ·have h := An c6 h
    refine Aq (Ab (Ab (Aa Ac rfl (qa rfl (Ad ?_)))))
    refine AK (L := Ca N p0 p1) h (fun v7 => mk [(2, oD (.ptr 2 0)), (3, oD (.ptr 3 0)), (6, iD ((p0.fVersions.length : Int))), (7, iD v7)] [(2, .box [sC (p0.fVersions.map Ai), sC (p0.fNow.map Ai), sC (p0.fTarget.map Ai), sC (p0.fTables.map Ao)]), (3, .box [sC (p1.fBase.map Ai), sC (p1.fNext.map Ai), sC (p1.fHeld.map Bg)])]) (fun v8 => mk [(2, oD (.ptr 2 0)), (3, oD (.ptr 3 0))] [(2, .box [sC (p0.fVersions.map Ai), sC (p0.fNow.map Ai), sC (p0.fTarget.map Ai), sC (p0.fTables.map Ao)]), (3, .box [sC (p1.fBase.map Ai), sC (p1.fNext.map Ai), sC (p1.fHeld.map Bg)])]) (fun _ _ => rfl) (sm [] _ _ rfl rfl) (fun j7 n7 v7 h => ?_) (fun v8 s h hs => ?_)
    ·unfold Ca at h
     refine Ab (Ab (Aa Ac rfl (qm rfl (qm rfl (A1 rfl (Ad ?_))))))
     refine Ap rfl (fun c9 => ?_) (fun c9 => ?_)
     ·have h := Am c9 h
      refine Aq (Ab (AR (Ab ?_)))
      refine AU h (fun v10 => mk [(2, oD (.ptr 2 0)), (3, oD (.ptr 3 0)), (6, iD ((p0.fVersions.length : Int))), (7, iD v7), (84, bD v10)] [(2, .box [sC (p0.fVersions.map Ai), sC (p0.fNow.map Ai), sC (p0.fTarget.map Ai), sC (p0.fTables.map Ao)]), (3, .box [sC (p1.fBase.map Ai), sC (p1.fNext.map Ai), sC (p1.fHeld.map Bg)])]) (fun j10 h => ?_) (fun v10 h => ?_)
      ·refine Aa Ac rfl (qf CS rfl (ql Bh rfl (qm rfl ?_)))
       obtain ⟨v11, a11, b11, h⟩ := Aj h
       refine qi AJ DA a11 (Ah b11) rfl (qk Cs rfl (A1 rfl (qm rfl ?_)))
       refine AG (t := 51) rfl (fun c12 => ?_) (fun c12 => ?_)
       ·have h := Am c12 h
        refine qn rfl (qn rfl (qn rfl (qn rfl (qn rfl (qn rfl (qn rfl (qn rfl (qn rfl (qn rfl (qn rfl (qp rfl (qm rfl (qn rfl (qn rfl (qn rfl (qn rfl (qn rfl (qn rfl (qp rfl (qm rfl (qn rfl (qn rfl (qn rfl (qn rfl (qn rfl (qn rfl (qn rfl (qn rfl (qn rfl (qn rfl (qn rfl (qp rfl (AQ (by kernel_rfl) ?_)))))))))))))))))))))))))))))))))
        exact Aw _ h (sm [] _ _ rfl rfl)
       ·have h := An c12 h
        refine qf CS rfl (ql Bh rfl (qm rfl ?_))
        obtain ⟨v13, a13, b13, h⟩ := Aj h
        refine qi AJ DA a13 (Ah b13) rfl (qk Cs rfl (qf BB rfl (ql Bh rfl (qm rfl ?_))))
        obtain ⟨v14, a14, b14, h⟩ := Aj h
        refine qi AJ DA a14 (Ah b14) rfl (qk Cs rfl (Dz rfl (qp rfl (qm rfl ?_))))
        refine AG (t := 64) rfl (fun c15 => ?_) (fun c15 => ?_)
        ·have h := Am c15 h
         refine qn rfl (qn rfl (qn rfl (qn rfl (qn rfl (qn rfl (qp rfl (qm rfl (qn rfl (qn rfl (qn rfl (qn rfl (qn rfl (qn rfl (qn rfl (qn rfl (qn rfl (qn rfl (qn rfl (qp rfl (AQ (by kernel_rfl) ?_))))))))))))))))))))
         exact Aw _ h (sm [] _ _ rfl rfl)
        ·have h := An c15 h
         refine qf BH rfl (ql Bh rfl (qm rfl ?_))
         obtain ⟨v16, a16, b16, h⟩ := Aj h
         refine qi AJ DA a16 (Ah b16) rfl (qk Cs rfl (A1 rfl (qp rfl (qm rfl ?_))))
         refine AG (t := 72) rfl (fun c17 => ?_) (fun c17 => ?_)
         ·have h := Am c17 h
          refine qn rfl (qn rfl (qn rfl (qn rfl (qn rfl (qn rfl (qn rfl (qn rfl (qn rfl (qn rfl (qn rfl (qp rfl (AQ (by kernel_rfl) ?_))))))))))))
          exact Aw _ h (sm [] _ _ rfl rfl)
         ·have h := An c17 h
          refine qf BH rfl (ql Bh rfl (qm rfl ?_))
          obtain ⟨v18, a18, b18, h⟩ := Aj h
          refine qi AJ DA a18 (Ah b18) rfl (qk Cs rfl (qf BB rfl (ql Bh rfl (qm rfl ?_))))
          obtain ⟨v19, a19, b19, h⟩ := Aj h
          refine qi AJ DA a19 (Ah b19) rfl (qk Cs rfl (Dz rfl (qp rfl (AQ (by kernel_rfl) ?_))))
          exact Aw _ h (sm [] _ _ rfl rfl)
      ·refine Ap rfl (fun c20 => ?_) (fun c20 => ?_)
       ·have h := Am c20 h
        refine Ab (Aa Ac rfl (qa rfl (Ad ?_)))
        obtain rfl := sj h
        refine Al (sm [] [(4, iD 7)] [] rfl rfl) (Az ?_)
        exact ⟨⟨[_], ⟨.tmp _ _ rfl, tv⟩, rfl⟩, tv⟩
       ·have h := An c20 h
        refine Aq (Ab (Aa Ac rfl (qf CS rfl (ql Bh rfl (qm rfl ?_)))))
        obtain ⟨v21, a21, b21, h⟩ := Aj h
        refine qi AJ DA a21 (Ah b21) rfl (qk Cs rfl (qf BH rfl (ql Bh rfl (qm rfl ?_))))
        obtain ⟨v22, a22, b22, h⟩ := Aj h
        refine qi AJ DA a22 (Ah b22) rfl (qk Cs rfl (BM rfl (AQ (by kernel_rfl) ?_)))
        refine Ap rfl (fun c23 => ?_) (fun c23 => ?_)
        ·have h := Am c23 h
         refine Ab (Aa Ac rfl (qa rfl (Ad ?_)))
         obtain rfl := sj h
         refine Al (sm [] [(4, iD 1)] [] rfl rfl) (Az ?_)
         exact ⟨⟨[_], ⟨.tmp _ _ rfl, tv⟩, rfl⟩, tv⟩
        ·have h := An c23 h
         refine Aq (Aa Ac rfl (qm rfl (AY rfl (qa rfl (Ad ?_)))))
         exact Aw _ h (sm [] _ _ rfl rfl)
     ·have h := An c9 h
      refine AW ?_
      exact Aw _ h (sm [] _ _ rfl rfl)
    ·refine Al hs (Ab (Ab (Aa Ac rfl (qa rfl (Ad ?_)))))
     refine AK (L := BU N p0 p1) h (fun v24 => mk [(2, oD (.ptr 2 0)), (3, oD (.ptr 3 0)), (8, iD v24)] [(2, .box [sC (p0.fVersions.map Ai), sC (p0.fNow.map Ai), sC (p0.fTarget.map Ai), sC (p0.fTables.map Ao)]), (3, .box [sC (p1.fBase.map Ai), sC (p1.fNext.map Ai), sC (p1.fHeld.map Bg)])]) (fun v25 => mk [] []) (fun _ _ => rfl) (sm [] _ _ rfl rfl) (fun j24 n24 v24 h => ?_) (fun v25 s h hs => ?_)
     ·unfold BU at h
      refine Ab (Ab (Aa Ac rfl (qm rfl (qf CO rfl (ql He rfl (AZ Ed rfl (A1 rfl (Ad ?_))))))))
      refine Ap rfl (fun c26 => ?_) (fun c26 => ?_)
      ·have h := Am c26 h
       refine Aq (Ab (AR (Ab (Aa Ac rfl (qf CO rfl (ql He rfl (qm rfl ?_)))))))
       obtain ⟨v27, a27, b27, h⟩ := Aj h
       refine qi Ed Eb a27 (Ah b27) rfl (qK Hn Eb rfl (qz Km rfl (qs Eb rfl (Ad (Ab (Aa Ac rfl (qf BB rfl (ql Bh rfl (qf Db rfl (ql Cs rfl ?_))))))))))
       obtain ⟨v28, a28, b28, h⟩ := Aj h
       refine qi AJ DA a28 (Ah b28) rfl (qk Cs rfl ?_)
       obtain ⟨c29, h⟩ := AN h
       refine HA rfl c29 (CM rfl (qa rfl (Ad ?_)))
       refine AU h (fun v30 => mk [(2, oD (.ptr 2 0)), (3, oD (.ptr 3 0)), (8, iD v24), (153, bD v30)] [(2, .box [sC (p0.fVersions.map Ai), sC (p0.fNow.map Ai), sC (p0.fTarget.map Ai), sC (p0.fTables.map Ao)]), (3, .box [sC (p1.fBase.map Ai), sC (p1.fNext.map Ai), sC (p1.fHeld.map Bg)])]) (fun j30 h => ?_) (fun v30 h => ?_)
       ·refine Aa Ac rfl (qL Hn Eb rfl ?_)
        obtain ⟨v31, a31, h⟩ := bind_some h
        refine AH [] (Cm N v27 v31 a31) P5 rfl (B7 rfl (qm rfl ?_))
        refine AG (t := 119) rfl (fun c32 => ?_) (fun c32 => ?_)
        ·have h := Am c32 h
         refine qf CC rfl (ql GN rfl (qm rfl ?_))
         obtain ⟨v33, a33, b33, h⟩ := Aj h
         refine qi C4 FE a33 (Ah b33) rfl (qk Jl rfl (Cw rfl (qp rfl (qm rfl ?_))))
         refine AG (t := 127) rfl (fun c34 => ?_) (fun c34 => ?_)
         ·have h := Am c34 h
          refine qn rfl (qn rfl (qn rfl (qu rfl (qu rfl (qu rfl (qu rfl (qu rfl (qu rfl (qu rfl (qu rfl (qu rfl (qu rfl (qu rfl (qu rfl (qu rfl (qu rfl (qu rfl (qu rfl (qu rfl (qu rfl (qu rfl (qu rfl (qu rfl (qn rfl (qp rfl (AQ (by kernel_rfl) ?_))))))))))))))))))))))))))
          exact Aw _ h (sm [] _ _ rfl rfl)
         ·have h := An c34 h
          refine qL Hn Eb rfl ?_
          obtain ⟨v35, a35, h⟩ := bind_some h
          refine AH [] (Cm N v27 v35 a35) P5 rfl (qm rfl ?_)
          refine AG (t := 130) rfl (fun c36 => ?_) (fun c36 => ?_)
          ·have h := Am c36 h
           refine qf CC rfl (ql GN rfl (qm rfl ?_))
           obtain ⟨v37, a37, b37, h⟩ := Aj h
           refine qi C4 FE a37 (Ah b37) rfl (qk Jl rfl (qm rfl (Is rfl (Cw rfl (qm rfl ?_)))))
           refine AG (t := 139) rfl (fun c38 => ?_) (fun c38 => ?_)
           ·have h := Am c38 h
            refine qn rfl (qn rfl (qn rfl (qn rfl (qn rfl (qn rfl (qn rfl (qn rfl (qn rfl (qn rfl (qn rfl (qp rfl (qp rfl (qp rfl (AQ (by kernel_rfl) ?_))))))))))))))
            exact Aw _ h (sm [] _ _ rfl rfl)
           ·have h := An c38 h
            refine qL A0 Ay rfl (qf Db rfl (ql Cs rfl ?_))
            obtain ⟨v39, a39, h⟩ := bind_some h
            refine AH [] (D8 N p1 v27.fFrom v39 a39) Tr rfl (qf CC rfl (ql GN rfl (qm rfl ?_)))
            obtain ⟨v40, a40, b40, h⟩ := Aj h
            refine qi C4 FE a40 (Ah b40) rfl (qk Jl rfl (Is rfl (Cw rfl (qp rfl (qp rfl (qp rfl (AQ (by kernel_rfl) ?_)))))))
            exact Aw _ h (sm [] _ _ rfl rfl)
          ·have h := An c36 h
           refine qn rfl (qn rfl (qn rfl (qn rfl (qn rfl (qn rfl (qn rfl (qn rfl (qn rfl (qu rfl (qu rfl (qu rfl (qu rfl (qu rfl (qu rfl (qu rfl (qu rfl (qu rfl (qu rfl (qu rfl (qn rfl (qp rfl (qp rfl (AQ (by kernel_rfl) ?_)))))))))))))))))))))))
           exact Aw _ h (sm [] _ _ rfl rfl)
        ·have h := An c32 h
         refine qn rfl (qn rfl (qn rfl (qn rfl (qn rfl (qn rfl (qp rfl (qm rfl (qL Hn Eb rfl ?_))))))))
         obtain ⟨v41, a41, h⟩ := bind_some h
         refine AH [] (Cm N v27 v41 a41) P5 rfl (qm rfl ?_)
         refine AG (t := 130) rfl (fun c42 => ?_) (fun c42 => ?_)
         ·have h := Am c42 h
          refine qf CC rfl (ql GN rfl (qm rfl ?_))
          obtain ⟨v43, a43, b43, h⟩ := Aj h
          refine qi C4 FE a43 (Ah b43) rfl (qk Jl rfl (qm rfl (Is rfl (Cw rfl (qm rfl ?_)))))
          refine AG (t := 139) rfl (fun c44 => ?_) (fun c44 => ?_)
          ·have h := Am c44 h
           refine qn rfl (qn rfl (qn rfl (qn rfl (qn rfl (qn rfl (qn rfl (qn rfl (qn rfl (qn rfl (qn rfl (qp rfl (qp rfl (qp rfl (AQ (by kernel_rfl) ?_))))))))))))))
           exact Aw _ h (sm [] _ _ rfl rfl)
          ·have h := An c44 h
           refine qL A0 Ay rfl (qf Db rfl (ql Cs rfl ?_))
           obtain ⟨v45, a45, h⟩ := bind_some h
           refine AH [] (D8 N p1 v27.fFrom v45 a45) Tr rfl (qf CC rfl (ql GN rfl (qm rfl ?_)))
           obtain ⟨v46, a46, b46, h⟩ := Aj h
           refine qi C4 FE a46 (Ah b46) rfl (qk Jl rfl (Is rfl (Cw rfl (qp rfl (qp rfl (qp rfl (AQ (by kernel_rfl) ?_)))))))
           exact Aw _ h (sm [] _ _ rfl rfl)
         ·have h := An c42 h
          refine qn rfl (qn rfl (qn rfl (qn rfl (qn rfl (qn rfl (qn rfl (qn rfl (qn rfl (qu rfl (qu rfl (qu rfl (qu rfl (qu rfl (qu rfl (qu rfl (qu rfl (qu rfl (qu rfl (qu rfl (qn rfl (qp rfl (qp rfl (AQ (by kernel_rfl) ?_)))))))))))))))))))))))
          exact Aw _ h (sm [] _ _ rfl rfl)
       ·refine Ap rfl (fun c47 => ?_) (fun c47 => ?_)
        ·have h := Am c47 h
         refine Ab (Aa Ac rfl (qa rfl (Ad ?_)))
         obtain rfl := sj h
         refine Al (sm [] [(4, iD 1)] [] rfl rfl) (Az ?_)
         exact ⟨⟨[_], ⟨.tmp _ _ rfl, tv⟩, rfl⟩, tv⟩
        ·have h := An c47 h
         refine Aq (Aa Ac rfl (qm rfl (AY rfl (qa rfl (Ad ?_)))))
         exact Aw _ h (sm [] _ _ rfl rfl)
      ·have h := An c26 h
       refine AW ?_
       exact Aw _ h (sm [] _ _ rfl rfl)
     ·refine Al hs (Ab (Aa Ac rfl (qa rfl (Ad ?_))))
      obtain rfl := sj h
      refine Al (sm [] [(4, iD 0)] [] rfl rfl) (Az ?_)
      exact ⟨⟨[_], ⟨.tmp _ _ rfl, tv⟩, rfl⟩, tv⟩
theorem Kp (N : Nat) (p0 : Ak) (r : Bool) (h : Ew N p0 = some r) : AE Tryz.prog 93 [.e (.agg [iC p0.fKind, iC p0.fIndex, iC p0.fVersion])] [] (bD r) := by
 unfold Ew at h
 refine Ar (n := 31) (rs := [.tmp 2]) Tryz.func93 rfl rfl rfl (A7 rfl) (A7 rfl) rfl fun w0 S0 => ?_
 refine Ab (Aa Ac rfl (qb rfl (qa rfl (Ad ?_))))
 refine AU h (fun v1 => mk [(2, bD v1)] []) (fun j1 h => ?_) (fun v1 h => ?_)
 ·refine Aa Ac rfl (qf Fu rfl (ql Cs rfl (Dz rfl (qm rfl ?_))))
  refine AG (t := 6) rfl (fun c2 => ?_) (fun c2 => ?_)
  ·have h := Am c2 h
   refine qf Fu rfl (ql Cs rfl (KB rfl (qp rfl (qm rfl ?_))))
   refine AG (t := 11) rfl (fun c3 => ?_) (fun c3 => ?_)
   ·have h := Am c3 h
    refine qf ET rfl (ql Cs rfl (Dz rfl (qp rfl (qm rfl ?_))))
    refine AG (t := 16) rfl (fun c4 => ?_) (fun c4 => ?_)
    ·have h := Am c4 h
     refine qf GD rfl (ql Cs rfl (Dz rfl (qp rfl (qm rfl ?_))))
     refine AG (t := 21) rfl (fun c5 => ?_) (fun c5 => ?_)
     ·have h := Am c5 h
      refine qf Fu rfl (ql Cs rfl (BM rfl (qm rfl ?_)))
      refine AG (t := 25) rfl (fun c6 => ?_) (fun c6 => ?_)
      ·have h := Am c6 h
       refine qn rfl (qn rfl (qn rfl (qp rfl (qp rfl (qa rfl (Ad ?_))))))
       exact Aw _ h (sm [] _ _ rfl rfl)
      ·have h := An c6 h
       refine qf GD rfl (ql Cs rfl (BM rfl (qp rfl (qp rfl (qa rfl (Ad ?_))))))
       exact Aw _ h (sm [] _ _ rfl rfl)
     ·have h := An c5 h
      refine qn rfl (qn rfl (qn rfl (qn rfl (qu rfl (qu rfl (qu rfl (qn rfl (qp rfl (qa rfl (Ad ?_))))))))))
      exact Aw _ h (sm [] _ _ rfl rfl)
    ·have h := An c4 h
     refine qn rfl (qn rfl (qn rfl (qp rfl (qm rfl (qn rfl (qn rfl (qn rfl (qn rfl (qu rfl (qu rfl (qu rfl (qn rfl (qp rfl (qa rfl (Ad ?_)))))))))))))))
     exact Aw _ h (sm [] _ _ rfl rfl)
   ·have h := An c3 h
    refine qn rfl (qn rfl (qn rfl (qp rfl (qm rfl (qn rfl (qn rfl (qn rfl (qp rfl (qm rfl (qn rfl (qn rfl (qn rfl (qn rfl (qu rfl (qu rfl (qu rfl (qn rfl (qp rfl (qa rfl (Ad ?_))))))))))))))))))))
    exact Aw _ h (sm [] _ _ rfl rfl)
  ·have h := An c2 h
   refine qn rfl (qn rfl (qn rfl (qp rfl (qm rfl (qn rfl (qn rfl (qn rfl (qp rfl (qm rfl (qn rfl (qn rfl (qn rfl (qp rfl (qm rfl (qn rfl (qn rfl (qn rfl (qn rfl (qu rfl (qu rfl (qu rfl (qn rfl (qp rfl (qa rfl (Ad ?_)))))))))))))))))))))))))
   exact Aw _ h (sm [] _ _ rfl rfl)
 ·obtain rfl := sj h
  refine Al (sm [] [(2, bD v1)] [] rfl rfl) (Az ?_)
  exact ⟨⟨[_], ⟨.tmp _ _ rfl, tv⟩, rfl⟩, tv⟩
theorem Gl (N : Nat) (p0 : Ag) (p1 : Ae) (p2 : Ak) (r : Ae × Bool) (h : Cn N p0 p1 p2 = some r) : AE Tryz.prog 27 [.e (.agg [sC (p0.fVersions.map Ai), sC (p0.fNow.map Ai), sC (p0.fTarget.map Ai), sC (p0.fTables.map Ao)]), .e (.agg [sC (p1.fBase.map Ai), sC (p1.fNext.map Ai), sC (p1.fHeld.map Bg)]), .e (.agg [iC p2.fKind, iC p2.fIndex, iC p2.fVersion])] [(1, r.1.fBase.map Ai), (1, r.1.fNext.map Ai), (1, r.1.fHeld.map Bg)] (.tup [.agg [.own 0, .own 1, .own 2], .one (.pure (.val (.bool r.2)))]) := by
 unfold Cn at h
 refine Ar (n := 201) (rs := [.cell 6 50, .tmp 7]) Tryz.func27 rfl rfl rfl (A7 rfl) (A7 rfl) rfl fun w0 S0 => ?_
 refine Ab (Aa Ac rfl (qb rfl (qb rfl (qb rfl (qz Cu rfl (qa rfl (Ad (Ab (Aa Ac rfl (D6 AJ DA KE rfl (qf CS rfl (ql Bh rfl ?_))))))))))))
 obtain ⟨c1, h⟩ := AN h
 refine J5 (f := Ai) AJ AJ DA LQ KE (fun _ => rfl) c1 rfl (D6 AJ DA KE rfl (qf BH rfl (ql Bh rfl ?_)))
 obtain ⟨c2, h⟩ := AN h
 refine J5 (f := Ai) AJ AJ DA LQ KE (fun _ => rfl) c2 rfl (D6 C4 FE PP rfl (qf CC rfl (ql GN rfl ?_)))
 obtain ⟨c3, h⟩ := AN h
 refine J5 (f := Bg) C4 C4 FE QB PP (fun _ => rfl) c3 rfl (BO Cu HQ rfl (qz Cu rfl (qs Ay rfl (AQ (by kernel_rfl) (Ab (Aa Ac rfl (qf ET rfl (ql Cs rfl (qa rfl (Ad ?_))))))))))
 refine AU h (fun v4 => mk [(6, oD (.ptr 6 0)), (8, oD (.ptr 8 0))] [(6, .box [.pure (.nil0), .pure (.nil0), .pure (.nil0)]), (8, .box [.own 2001, .own 2002, .own 2003]), (2001, .vec 1 (v4.1.map Ai)), (2002, .vec 1 (v4.2.1.map Ai)), (2003, .vec 1 (v4.2.2.map Bg))]) (fun j4 h => ?_) (fun v4 h => ?_)
 ·refine Ab (Aa Ac rfl (qf Fu rfl (ql Cs rfl (Ad (AR (Ab (Aa Ac rfl (BM rfl (qa rfl (Ad ?_))))))))))
  refine Ap rfl (fun c5 => ?_) (fun c5 => ?_)
  ·have h := Am c5 h
   refine Ab ?_
   refine AU h (fun v6 => mk [(3, oD (.ptr 3 0)), (5, oD (.ptr 5 0)), (6, oD (.ptr 6 0)), (8, oD (.ptr 8 0)), (9, iD p2.fIndex), (60, bD v6)] [(3, .box [sC (p0.fVersions.map Ai), sC (p0.fNow.map Ai), sC (p0.fTarget.map Ai), sC (p0.fTables.map Ao)]), (5, .box [iC p2.fKind, iC p2.fIndex, iC p2.fVersion]), (6, .box [.pure (.nil0), .pure (.nil0), .pure (.nil0)]), (8, .box [.own 2004, .own 2005, .own 2006]), (2004, .vec 1 (((([] : List Int)) ++ p1.fBase).map Ai)), (2005, .vec 1 (((([] : List Int)) ++ p1.fNext).map Ai)), (2006, .vec 1 (((([] : List Int)) ++ p1.fHeld).map Bg))]) (fun j6 h => ?_) (fun v6 h => ?_)
   ·refine Aa Ac rfl (qf BH rfl (ql Bh rfl (qm rfl ?_)))
    obtain ⟨v7, a7, b7, h⟩ := Aj h
    refine qi AJ DA a7 (Ah b7) rfl (qk Cs rfl (Dz rfl (qm rfl ?_)))
    refine AG (t := 51) rfl (fun c8 => ?_) (fun c8 => ?_)
    ·have h := Am c8 h
     refine qn rfl (qn rfl (qn rfl (qn rfl (qn rfl (qn rfl (qn rfl (qn rfl (qp rfl (AQ (by kernel_rfl) ?_)))))))))
     exact Aw _ h (sm [(2004, 18), (2005, 22), (2006, 26)] _ _ rfl rfl)
    ·have h := An c8 h
     refine qf GD rfl (ql Cs rfl (qf CS rfl (ql Bh rfl (qm rfl ?_))))
     obtain ⟨v9, a9, b9, h⟩ := Aj h
     refine qi AJ DA a9 (Ah b9) rfl (qk Cs rfl (BM rfl (qp rfl (AQ (by kernel_rfl) ?_))))
     exact Aw _ h (sm [(2004, 18), (2005, 22), (2006, 26)] _ _ rfl rfl)
   ·refine Ap rfl (fun c10 => ?_) (fun c10 => ?_)
    ·have h := Am c10 h
     refine Ab (Aa Ac rfl (BO Cu HQ rfl (qs Ay rfl (qa rfl (Ad ?_)))))
     obtain rfl := sj h
     refine Al ((AF 6 0 2007 1 _ rfl rfl rfl rfl).trans ((AF 6 1 2008 1 _ rfl rfl rfl rfl).trans ((AF 6 2 2009 1 _ rfl rfl rfl rfl).trans (sm [(1000, 2007), (1001, 2008), (1002, 2009)] [(6, oD (.ptr 6 0)), (7, bD false)] [(6, .box [.own 1000, .own 1001, .own 1002]), (1000, .vec 1 ((([] : List Int)).map Ai)), (1001, .vec 1 ((([] : List Int)).map Ai)), (1002, .vec 1 ((([] : List Int)).map Bg))] rfl rfl)))) (Az ?_)
     exact ⟨⟨[_, _], ⟨.cellN _ _ _ _ _ _ _ rfl rfl A0 Ay rfl rfl (Jb rfl), ⟨.tmp _ _ rfl, tv⟩⟩, rfl⟩, ⟨rfl, rfl, rfl, tv⟩⟩
    ·have h := An c10 h
     refine Aq (Ab (Aa Ac rfl (qf BH rfl (ql Bh rfl (qm rfl (qf GD rfl (ql Cs rfl ?_)))))))
     obtain ⟨v11, a11, b11, h⟩ := Aj h
     refine qI AJ DA a11 (Ah b11) rfl ?_
     refine Bd rfl rfl rfl rfl (Ah b11) rfl DA rfl (A7 rfl) (Bc Ai ((([] : List Int)) ++ p1.fNext) _ p2.fVersion) ?_
     refine Ad (Ab (Aa Ac rfl (qa rfl (Ad ?_))))
     refine AK (L := BW N p0 p2) h (fun v12 => mk [(3, oD (.ptr 3 0)), (5, oD (.ptr 5 0)), (6, oD (.ptr 6 0)), (8, oD (.ptr 8 0)), (9, iD p2.fIndex), (10, iD v12.2)] [(3, .box [sC (p0.fVersions.map Ai), sC (p0.fNow.map Ai), sC (p0.fTarget.map Ai), sC (p0.fTables.map Ao)]), (5, .box [iC p2.fKind, iC p2.fIndex, iC p2.fVersion]), (6, .box [.pure (.nil0), .pure (.nil0), .pure (.nil0)]), (8, .box [.own 2010, .own 2011, .own 2012]), (2010, .vec 1 (((([] : List Int)) ++ p1.fBase).map Ai)), (2011, .vec 1 ((((([] : List Int)) ++ p1.fNext).set ((p2.fIndex).toNat) p2.fVersion).map Ai)), (2012, .vec 1 (v12.1.map Bg))]) (fun v13 => mk [(6, oD (.ptr 6 0)), (8, oD (.ptr 8 0))] [(6, .box [.pure (.nil0), .pure (.nil0), .pure (.nil0)]), (8, .box [.own 2013, .own 2014, .own 2015]), (2013, .vec 1 (((([] : List Int)) ++ p1.fBase).map Ai)), (2014, .vec 1 ((((([] : List Int)) ++ p1.fNext).set ((p2.fIndex).toNat) p2.fVersion).map Ai)), (2015, .vec 1 (v13.map Bg))]) (fun _ _ => rfl) (sm [(2010, 2004), (2011, 2005), (2012, 2006)] _ _ rfl rfl) (fun j12 n12 v12 h => ?_) (fun v13 s h hs => ?_)
     ·unfold BW at h
      refine Ab (Ab (Aa Ac rfl (qm rfl (qf CO rfl (ql He rfl (AZ Ed rfl (A1 rfl (Ad ?_))))))))
      refine Ap rfl (fun c14 => ?_) (fun c14 => ?_)
      ·have h := Am c14 h
       refine Aq ?_
       refine AU h (fun v15 => mk [(3, oD (.ptr 3 0)), (5, oD (.ptr 5 0)), (6, oD (.ptr 6 0)), (8, oD (.ptr 8 0)), (9, iD p2.fIndex), (10, iD v12.2)] [(3, .box [sC (p0.fVersions.map Ai), sC (p0.fNow.map Ai), sC (p0.fTarget.map Ai), sC (p0.fTables.map Ao)]), (5, .box [iC p2.fKind, iC p2.fIndex, iC p2.fVersion]), (6, .box [.pure (.nil0), .pure (.nil0), .pure (.nil0)]), (8, .box [.own 2016, .own 2017, .own 2018]), (2016, .vec 1 (((([] : List Int)) ++ p1.fBase).map Ai)), (2017, .vec 1 ((((([] : List Int)) ++ p1.fNext).set ((p2.fIndex).toNat) p2.fVersion).map Ai)), (2018, .vec 1 (v15.map Bg))]) (fun j15 h => ?_) (fun v15 h => ?_)
       ·refine AR ?_
        refine AU h (fun v16 => mk [(3, oD (.ptr 3 0)), (5, oD (.ptr 5 0)), (6, oD (.ptr 6 0)), (8, oD (.ptr 8 0)), (9, iD p2.fIndex), (10, iD v12.2), (90, bD v16)] [(3, .box [sC (p0.fVersions.map Ai), sC (p0.fNow.map Ai), sC (p0.fTarget.map Ai), sC (p0.fTables.map Ao)]), (5, .box [iC p2.fKind, iC p2.fIndex, iC p2.fVersion]), (6, .box [.pure (.nil0), .pure (.nil0), .pure (.nil0)]), (8, .box [.own 2019, .own 2020, .own 2021]), (2019, .vec 1 (((([] : List Int)) ++ p1.fBase).map Ai)), (2020, .vec 1 ((((([] : List Int)) ++ p1.fNext).set ((p2.fIndex).toNat) p2.fVersion).map Ai)), (2021, .vec 1 (v12.1.map Bg))]) (fun j16 h => ?_) (fun v16 h => ?_)
        ·refine Aa Ac rfl (qf CO rfl (ql He rfl (qm rfl ?_)))
         obtain ⟨v17, a17, b17, h⟩ := Aj h
         refine qi Ed Eb a17 (Ah b17) rfl (qg Db rfl (qk Cs rfl (qm rfl (BM rfl (qm rfl ?_)))))
         refine AG (t := 83) rfl (fun c18 => ?_) (fun c18 => ?_)
         ·have h := Am c18 h
          refine qf CO rfl (ql He rfl (qm rfl ?_))
          obtain ⟨v19, a19, b19, h⟩ := Aj h
          refine qi Ed Eb a19 (Ah b19) rfl (qK Hn Eb rfl ?_)
          obtain ⟨v20, a20, h⟩ := bind_some h
          refine AH [] (Cm N v19 v20 a20) P5 rfl (qp rfl (Ad ?_))
          exact Aw _ h (sm [(2019, 2010), (2020, 2011), (2021, 2012)] _ _ rfl rfl)
         ·have h := An c18 h
          refine qn rfl (qn rfl (qn rfl (qn rfl (qn rfl (qn rfl (qp rfl (Ad ?_)))))))
          exact Aw _ h (sm [(2019, 2010), (2020, 2011), (2021, 2012)] _ _ rfl rfl)
        ·refine Ap rfl (fun c21 => ?_) (fun c21 => ?_)
         ·have h := Am c21 h
          refine Aa Ac rfl (qf CC rfl (ql GN rfl (qm rfl (qf CC rfl (ql GN rfl (qm rfl ?_))))))
          obtain ⟨v22, a22, b22, h⟩ := Aj h
          refine qI C4 FE a22 (Ah b22) rfl (qj Jl (Ah b22) rfl (qf GD rfl (ql Cs rfl ?_)))
          obtain ⟨c23, h⟩ := AN h
          refine HA rfl c23 (Tn rfl ?_)
          obtain ⟨v24, a24, b24, h⟩ := Aj h
          refine qI C4 FE a24 (Ah b24) rfl ?_
          refine Bd rfl rfl rfl rfl (Ah b24) rfl FE rfl (A7 rfl) (Bc Bg v12.1 _ ((Oa .u8 v22 ((Co .u8 1 p2.fVersion))))) ?_
          refine AQ (by kernel_rfl) ?_
          exact Aw _ h (sm [(2016, 2019), (2017, 2020), (2018, 2021)] _ _ rfl rfl)
         ·have h := An c21 h
          refine Aq ?_
          exact Aw _ h (sm [(2016, 2019), (2017, 2020), (2018, 2021)] _ _ rfl rfl)
       ·refine Aa Ac rfl (qm rfl (AY rfl (qa rfl (Ad ?_))))
        exact Aw _ h (sm [(2010, 2016), (2011, 2017), (2012, 2018)] _ _ rfl rfl)
      ·have h := An c14 h
       refine AW ?_
       exact Aw _ h (sm [(2013, 2010), (2014, 2011), (2015, 2012)] _ _ rfl rfl)
     ·exact Aw _ h (hs.trans (sm [(2001, 2013), (2002, 2014), (2003, 2015)] _ _ rfl rfl))
  ·have h := An c5 h
   refine Ab (Aa Ac rfl (BM rfl (qa rfl (Ad ?_))))
   refine Ap rfl (fun c25 => ?_) (fun c25 => ?_)
   ·have h := Am c25 h
    refine Ab (Ab (Aa Ac rfl (qf BH rfl (ql Bh rfl (qm rfl ?_)))))
    obtain ⟨v26, a26, b26, h⟩ := Aj h
    refine qi AJ DA a26 (Ah b26) rfl (qk Cs rfl (A1 rfl (Ad ?_)))
    refine Ap rfl (fun c27 => ?_) (fun c27 => ?_)
    ·have h := Am c27 h
     refine Ab (Aa Ac rfl (BO Cu HQ rfl (qs Ay rfl (qa rfl (Ad ?_)))))
     obtain rfl := sj h
     refine Al ((AF 6 0 2022 1 _ rfl rfl rfl rfl).trans ((AF 6 1 2023 1 _ rfl rfl rfl rfl).trans ((AF 6 2 2024 1 _ rfl rfl rfl rfl).trans (sm [(1000, 2022), (1001, 2023), (1002, 2024)] [(6, oD (.ptr 6 0)), (7, bD false)] [(6, .box [.own 1000, .own 1001, .own 1002]), (1000, .vec 1 ((([] : List Int)).map Ai)), (1001, .vec 1 ((([] : List Int)).map Ai)), (1002, .vec 1 ((([] : List Int)).map Bg))] rfl rfl)))) (Az ?_)
     exact ⟨⟨[_, _], ⟨.cellN _ _ _ _ _ _ _ rfl rfl A0 Ay rfl rfl (Jb rfl), ⟨.tmp _ _ rfl, tv⟩⟩, rfl⟩, ⟨rfl, rfl, rfl, tv⟩⟩
    ·have h := An c27 h
     refine Aq (Aa Ac rfl (qf CS rfl (ql Bh rfl (qm rfl (qf BH rfl (ql Bh rfl (qm rfl (qf BH rfl (ql Bh rfl (qm rfl ?_))))))))))
     obtain ⟨v28, a28, b28, h⟩ := Aj h
     refine qi AJ DA a28 (Ah b28) rfl (qk Cs rfl ?_)
     obtain ⟨v29, a29, b29, h⟩ := Aj h
     refine qI AJ DA a29 (Ah b29) rfl ?_
     refine Bd rfl rfl rfl rfl (Ah b29) rfl DA rfl (A7 rfl) (Bc Ai ((([] : List Int)) ++ p1.fBase) _ v28) ?_
     obtain ⟨v30, a30, b30, h⟩ := Aj h
     refine qI AJ DA a30 (Ah b30) rfl ?_
     refine Bd rfl rfl rfl rfl (Ah b30) rfl DA rfl (A7 rfl) (Bc Ai ((([] : List Int)) ++ p1.fNext) _ ((-1))) ?_
     refine AQ (by kernel_rfl) ?_
     exact Aw _ h (sm [(2001, 18), (2002, 22), (2003, 26)] _ _ rfl rfl)
   ·have h := An c25 h
    refine Ab (Aa Ac rfl (BM rfl (qa rfl (Ad ?_))))
    refine Ap rfl (fun c31 => ?_) (fun c31 => ?_)
    ·have h := Am c31 h
     refine Ab (Aa Ac rfl (qf CO rfl (ql He rfl (qm rfl ?_))))
     obtain ⟨v32, a32, b32, h⟩ := Aj h
     refine qi Ed Eb a32 (Ah b32) rfl (qK Hn Eb rfl (qz Km rfl (qs Eb rfl (Ad (Ab (Ab (Aa Ac rfl (qL Hn Eb rfl ?_))))))))
     obtain ⟨v33, a33, h⟩ := bind_some h
     refine AH [] (Cm N v32 v33 a33) P5 rfl (B7 rfl (Ad ?_))
     refine Ap rfl (fun c34 => ?_) (fun c34 => ?_)
     ·have h := Am c34 h
      refine Ab (Aa Ac rfl (BO Cu HQ rfl (qs Ay rfl (qa rfl (Ad ?_)))))
      obtain rfl := sj h
      refine Al ((AF 6 0 2025 1 _ rfl rfl rfl rfl).trans ((AF 6 1 2026 1 _ rfl rfl rfl rfl).trans ((AF 6 2 2027 1 _ rfl rfl rfl rfl).trans (sm [(1000, 2025), (1001, 2026), (1002, 2027)] [(6, oD (.ptr 6 0)), (7, bD false)] [(6, .box [.own 1000, .own 1001, .own 1002]), (1000, .vec 1 ((([] : List Int)).map Ai)), (1001, .vec 1 ((([] : List Int)).map Ai)), (1002, .vec 1 ((([] : List Int)).map Bg))] rfl rfl)))) (Az ?_)
      exact ⟨⟨[_, _], ⟨.cellN _ _ _ _ _ _ _ rfl rfl A0 Ay rfl rfl (Jb rfl), ⟨.tmp _ _ rfl, tv⟩⟩, rfl⟩, ⟨rfl, rfl, rfl, tv⟩⟩
     ·have h := An c34 h
      refine Aq (Ab (Aa Ac rfl (qL A0 Ay rfl (qf Db rfl (ql Cs rfl ?_)))))
      obtain ⟨v35, a35, h⟩ := bind_some h
      refine AH [] (D8 N p1 v32.fFrom v35 a35) Tr rfl (qa rfl (Ad (Ab (Ab (Aa Ac rfl (qf CC rfl (ql GN rfl (qm rfl ?_))))))))
      obtain ⟨v36, a36, b36, h⟩ := Aj h
      refine qi C4 FE a36 (Ah b36) rfl (qk Jl rfl (qm rfl (BM rfl (Ad ?_))))
      refine Ap rfl (fun c37 => ?_) (fun c37 => ?_)
      ·have h := Am c37 h
       refine Ab (Aa Ac rfl (BO Cu HQ rfl (qs Ay rfl (qa rfl (Ad ?_)))))
       obtain rfl := sj h
       refine Al ((AF 6 0 2028 1 _ rfl rfl rfl rfl).trans ((AF 6 1 2029 1 _ rfl rfl rfl rfl).trans ((AF 6 2 2030 1 _ rfl rfl rfl rfl).trans (sm [(1000, 2028), (1001, 2029), (1002, 2030)] [(6, oD (.ptr 6 0)), (7, bD false)] [(6, .box [.own 1000, .own 1001, .own 1002]), (1000, .vec 1 ((([] : List Int)).map Ai)), (1001, .vec 1 ((([] : List Int)).map Ai)), (1002, .vec 1 ((([] : List Int)).map Bg))] rfl rfl)))) (Az ?_)
       exact ⟨⟨[_, _], ⟨.cellN _ _ _ _ _ _ _ rfl rfl A0 Ay rfl rfl (Jb rfl), ⟨.tmp _ _ rfl, tv⟩⟩, rfl⟩, ⟨rfl, rfl, rfl, tv⟩⟩
      ·have h := An c37 h
       refine Aq (Ab (Ab (Aa Ac rfl (qa rfl (Ad ?_)))))
       refine AK (L := BG N p0 p1 p2 v32 v35) h (fun v38 => mk [(3, oD (.ptr 3 0)), (4, oD (.ptr 4 0)), (6, oD (.ptr 6 0)), (8, oD (.ptr 8 0)), (9, iD p2.fIndex), (11, oD (.ptr 11 0)), (12, pD (.val (.int .u8 v35))), (13, iD v38)] [(3, .box [sC (p0.fVersions.map Ai), sC (p0.fNow.map Ai), sC (p0.fTarget.map Ai), sC (p0.fTables.map Ao)]), (4, .box [sC (p1.fBase.map Ai), sC (p1.fNext.map Ai), sC (p1.fHeld.map Bg)]), (6, .box [.pure (.nil0), .pure (.nil0), .pure (.nil0)]), (8, .box [.own 2031, .own 2032, .own 2033]), (11, .box [iC v32.fKind, iC v32.fFrom, iC v32.fTo, .pure (.val (.bool v32.fAware)), sC (v32.fOK.map (EN eB)), sC (v32.fRewrite.map (EN eB))]), (2031, .vec 1 (((([] : List Int)) ++ p1.fBase).map Ai)), (2032, .vec 1 (((([] : List Int)) ++ p1.fNext).map Ai)), (2033, .vec 1 (((([] : List Int)) ++ p1.fHeld).map Bg))]) (fun v39 => mk [(6, oD (.ptr 6 0)), (8, oD (.ptr 8 0)), (9, iD p2.fIndex), (12, pD (.val (.int .u8 v35)))] [(6, .box [.pure (.nil0), .pure (.nil0), .pure (.nil0)]), (8, .box [.own 2034, .own 2035, .own 2036]), (2034, .vec 1 (((([] : List Int)) ++ p1.fBase).map Ai)), (2035, .vec 1 (((([] : List Int)) ++ p1.fNext).map Ai)), (2036, .vec 1 (((([] : List Int)) ++ p1.fHeld).map Bg))]) (fun _ _ => rfl) (sm [(2031, 18), (2032, 22), (2033, 26)] _ _ rfl rfl) (fun j38 n38 v38 h => ?_) (fun v39 s h hs => ?_)
       ·unfold BG at h
        refine Ab (Ab (Aa Ac rfl (qm rfl (qf BB rfl (ql Bh rfl (qf Db rfl (ql Cs rfl ?_)))))))
        obtain ⟨v40, a40, b40, h⟩ := Aj h
        refine qi AJ DA a40 (Ah b40) rfl (qk Cs rfl (A1 rfl (Ad ?_)))
        refine Ap rfl (fun c41 => ?_) (fun c41 => ?_)
        ·have h := Am c41 h
         refine Aq (Ab (AR ?_))
         refine AU h (fun v42 => mk [(3, oD (.ptr 3 0)), (4, oD (.ptr 4 0)), (6, oD (.ptr 6 0)), (8, oD (.ptr 8 0)), (9, iD p2.fIndex), (11, oD (.ptr 11 0)), (12, pD (.val (.int .u8 v35))), (13, iD v38), (14, bD v42)] [(3, .box [sC (p0.fVersions.map Ai), sC (p0.fNow.map Ai), sC (p0.fTarget.map Ai), sC (p0.fTables.map Ao)]), (4, .box [sC (p1.fBase.map Ai), sC (p1.fNext.map Ai), sC (p1.fHeld.map Bg)]), (6, .box [.pure (.nil0), .pure (.nil0), .pure (.nil0)]), (8, .box [.own 2037, .own 2038, .own 2039]), (11, .box [iC v32.fKind, iC v32.fFrom, iC v32.fTo, .pure (.val (.bool v32.fAware)), sC (v32.fOK.map (EN eB)), sC (v32.fRewrite.map (EN eB))]), (2037, .vec 1 (((([] : List Int)) ++ p1.fBase).map Ai)), (2038, .vec 1 (((([] : List Int)) ++ p1.fNext).map Ai)), (2039, .vec 1 (((([] : List Int)) ++ p1.fHeld).map Bg))]) (fun j42 h => ?_) (fun v42 h => ?_)
         ·refine Aa Ac rfl (qf CC rfl (ql GN rfl (qm rfl ?_)))
          obtain ⟨v43, a43, b43, h⟩ := Aj h
          refine qi C4 FE a43 (Ah b43) rfl (qk Jl rfl (qm rfl ?_))
          obtain ⟨v44, a44, h⟩ := bind_some h
          refine AH [] (zFS N v43 v38 v44 a44) VO rfl (qm rfl ?_)
          refine AG (t := 166) rfl (fun c45 => ?_) (fun c45 => ?_)
          ·have h := Am c45 h
           refine qm rfl (qm rfl ?_)
           obtain ⟨v46, a46, h⟩ := bind_some h
           refine AH [] (zFS N v35 v38 v46 a46) VO rfl (B7 rfl (qp rfl (qa rfl (Ad ?_))))
           exact Aw _ h (sm [(2037, 2031), (2038, 2032), (2039, 2033)] _ _ rfl rfl)
          ·have h := An c45 h
           refine qn rfl (qn rfl (qn rfl (qn rfl (qp rfl (qa rfl (Ad ?_))))))
           exact Aw _ h (sm [(2037, 2031), (2038, 2032), (2039, 2033)] _ _ rfl rfl)
         ·refine AU h (fun v47 => mk [(3, oD (.ptr 3 0)), (4, oD (.ptr 4 0)), (6, oD (.ptr 6 0)), (8, oD (.ptr 8 0)), (9, iD p2.fIndex), (11, oD (.ptr 11 0)), (12, pD (.val (.int .u8 v35))), (13, iD v38), (193, bD v47)] [(3, .box [sC (p0.fVersions.map Ai), sC (p0.fNow.map Ai), sC (p0.fTarget.map Ai), sC (p0.fTables.map Ao)]), (4, .box [sC (p1.fBase.map Ai), sC (p1.fNext.map Ai), sC (p1.fHeld.map Bg)]), (6, .box [.pure (.nil0), .pure (.nil0), .pure (.nil0)]), (8, .box [.own 2040, .own 2041, .own 2042]), (11, .box [iC v32.fKind, iC v32.fFrom, iC v32.fTo, .pure (.val (.bool v32.fAware)), sC (v32.fOK.map (EN eB)), sC (v32.fRewrite.map (EN eB))]), (2040, .vec 1 (((([] : List Int)) ++ p1.fBase).map Ai)), (2041, .vec 1 (((([] : List Int)) ++ p1.fNext).map Ai)), (2042, .vec 1 (((([] : List Int)) ++ p1.fHeld).map Bg))]) (fun j47 h => ?_) (fun v47 h => ?_)
          ·refine Aa Ac rfl (qm rfl (qm rfl ?_))
           refine AG (t := 173) rfl (fun c48 => ?_) (fun c48 => ?_)
           ·have h := Am c48 h
            refine qf FV rfl (ql Cs rfl (BM rfl (qp rfl (qm rfl ?_))))
            refine AG (t := 178) rfl (fun c49 => ?_) (fun c49 => ?_)
            ·have h := Am c49 h
             refine qf GC rfl (ql JL rfl (qm rfl ?_))
             obtain ⟨v50, a50, b50, h⟩ := Aj h
             refine qi Gg Jz a50 (Ah b50) rfl (qk K0 rfl (qf CS rfl (ql Bh rfl (qf Db rfl (ql Cs rfl ?_)))))
             obtain ⟨v51, a51, b51, h⟩ := Aj h
             refine qi AJ DA a51 (Ah b51) rfl (qk Cs rfl ?_)
             obtain ⟨v52, a52, b52, h⟩ := Aj h
             refine qi Fe QC a52 (Ah b52) rfl (qk Sx rfl (B7 rfl (qp rfl (AQ (by kernel_rfl) ?_))))
             exact Aw _ h (sm [(2040, 2037), (2041, 2038), (2042, 2039)] _ _ rfl rfl)
            ·have h := An c49 h
             refine qn rfl (qn rfl (qn rfl (qn rfl (qn rfl (qn rfl (qn rfl (qn rfl (qn rfl (qn rfl (qn rfl (qn rfl (qn rfl (qn rfl (qp rfl (AQ (by kernel_rfl) ?_)))))))))))))))
             exact Aw _ h (sm [(2040, 2037), (2041, 2038), (2042, 2039)] _ _ rfl rfl)
           ·have h := An c48 h
            refine qn rfl (qn rfl (qn rfl (qp rfl (qm rfl (qn rfl (qn rfl (qn rfl (qn rfl (qn rfl (qn rfl (qn rfl (qn rfl (qn rfl (qn rfl (qn rfl (qn rfl (qn rfl (qn rfl (qp rfl (AQ (by kernel_rfl) ?_))))))))))))))))))))
            exact Aw _ h (sm [(2040, 2037), (2041, 2038), (2042, 2039)] _ _ rfl rfl)
          ·refine Ap rfl (fun c53 => ?_) (fun c53 => ?_)
           ·have h := Am c53 h
            refine Ab (Aa Ac rfl (BO Cu HQ rfl (qs Ay rfl (qa rfl (Ad ?_)))))
            obtain rfl := sj h
            refine Al ((AF 6 0 2043 1 _ rfl rfl rfl rfl).trans ((AF 6 1 2044 1 _ rfl rfl rfl rfl).trans ((AF 6 2 2045 1 _ rfl rfl rfl rfl).trans (sm [(1000, 2043), (1001, 2044), (1002, 2045)] [(6, oD (.ptr 6 0)), (7, bD false)] [(6, .box [.own 1000, .own 1001, .own 1002]), (1000, .vec 1 ((([] : List Int)).map Ai)), (1001, .vec 1 ((([] : List Int)).map Ai)), (1002, .vec 1 ((([] : List Int)).map Bg))] rfl rfl)))) (Az ?_)
            exact ⟨⟨[_, _], ⟨.cellN _ _ _ _ _ _ _ rfl rfl A0 Ay rfl rfl (Jb rfl), ⟨.tmp _ _ rfl, tv⟩⟩, rfl⟩, ⟨rfl, rfl, rfl, tv⟩⟩
           ·have h := An c53 h
            refine Aq (Aa Ac rfl (qm rfl (AY rfl (qa rfl (Ad ?_)))))
            exact Aw _ h (sm [(2031, 2040), (2032, 2041), (2033, 2042)] _ _ rfl rfl)
        ·have h := An c41 h
         refine AW ?_
         exact Aw _ h (sm [(2034, 2031), (2035, 2032), (2036, 2033)] _ _ rfl rfl)
       ·refine Al hs (Aa Ac rfl (qf CC rfl (ql GN rfl (qm rfl (qm rfl ?_)))))
        obtain ⟨v54, a54, b54, h⟩ := Aj h
        refine qI C4 FE a54 (Ah b54) rfl ?_
        refine Bd rfl rfl rfl rfl (Ah b54) rfl FE rfl (A7 rfl) (Bc Bg ((([] : List Int)) ++ p1.fHeld) _ v35) ?_
        refine Ad ?_
        exact Aw _ h (sm [(2001, 2034), (2002, 2035), (2003, 2036)] _ _ rfl rfl)
    ·have h := An c31 h
     refine Ab (Ab (Aa Ac rfl (qf BH rfl (ql Bh rfl (qm rfl ?_)))))
     obtain ⟨v55, a55, b55, h⟩ := Aj h
     refine qi AJ DA a55 (Ah b55) rfl (qk Cs rfl (A1 rfl (Ad ?_)))
     refine Ap rfl (fun c56 => ?_) (fun c56 => ?_)
     ·have h := Am c56 h
      refine Ab (Aa Ac rfl (BO Cu HQ rfl (qs Ay rfl (qa rfl (Ad ?_)))))
      obtain rfl := sj h
      refine Al ((AF 6 0 2046 1 _ rfl rfl rfl rfl).trans ((AF 6 1 2047 1 _ rfl rfl rfl rfl).trans ((AF 6 2 2048 1 _ rfl rfl rfl rfl).trans (sm [(1000, 2046), (1001, 2047), (1002, 2048)] [(6, oD (.ptr 6 0)), (7, bD false)] [(6, .box [.own 1000, .own 1001, .own 1002]), (1000, .vec 1 ((([] : List Int)).map Ai)), (1001, .vec 1 ((([] : List Int)).map Ai)), (1002, .vec 1 ((([] : List Int)).map Bg))] rfl rfl)))) (Az ?_)
      exact ⟨⟨[_, _], ⟨.cellN _ _ _ _ _ _ _ rfl rfl A0 Ay rfl rfl (Jb rfl), ⟨.tmp _ _ rfl, tv⟩⟩, rfl⟩, ⟨rfl, rfl, rfl, tv⟩⟩
     ·have h := An c56 h
      refine Aq (Aa Ac rfl (qf BH rfl (ql Bh rfl (qm rfl ?_))))
      obtain ⟨v57, a57, b57, h⟩ := Aj h
      refine qI AJ DA a57 (Ah b57) rfl ?_
      refine Bd rfl rfl rfl rfl (Ah b57) rfl DA rfl (A7 rfl) (Bc Ai ((([] : List Int)) ++ p1.fNext) _ ((-1))) ?_
      refine Ad ?_
      exact Aw _ h (sm [(2001, 18), (2002, 22), (2003, 26)] _ _ rfl rfl)
 ·refine Ab (Aa Ac rfl (qL A0 Ay rfl (qs Ay rfl (qa rfl (Ad ?_)))))
  obtain rfl := sj h
  refine Al (sm [(1000, 2001), (1001, 2002), (1002, 2003)] [(6, oD (.ptr 6 0)), (7, bD true)] [(6, .box [.own 1000, .own 1001, .own 1002]), (1000, .vec 1 (v4.1.map Ai)), (1001, .vec 1 (v4.2.1.map Ai)), (1002, .vec 1 (v4.2.2.map Bg))] rfl rfl) (Az ?_)
  exact ⟨⟨[_, _], ⟨.cellN _ _ _ _ _ _ _ rfl rfl A0 Ay rfl rfl (Jb rfl), ⟨.tmp _ _ rfl, tv⟩⟩, rfl⟩, ⟨rfl, rfl, rfl, tv⟩⟩
theorem Kk (N : Nat) (p0 : Ag) (p1 : Ae) (p2 : Ak) (r : Ae × Int) (h : Ev N p0 p1 p2 = some r) : AE Tryz.prog 66 [.e (.agg [sC (p0.fVersions.map Ai), sC (p0.fNow.map Ai), sC (p0.fTarget.map Ai), sC (p0.fTables.map Ao)]), .e (.agg [sC (p1.fBase.map Ai), sC (p1.fNext.map Ai), sC (p1.fHeld.map Bg)]), .e (.agg [iC p2.fKind, iC p2.fIndex, iC p2.fVersion])] [(1, r.1.fBase.map Ai), (1, r.1.fNext.map Ai), (1, r.1.fHeld.map Bg)] (.tup [.agg [.own 0, .own 1, .own 2], .one (iC r.2)]) := by
 unfold Ev at h
 refine Ar (n := 73) (rs := [.cell 6 50, .tmp 7]) Tryz.func66 rfl rfl rfl (A7 rfl) (A7 rfl) rfl fun w0 S0 => ?_
 refine Ab (Aa Ac rfl (qb rfl (qb rfl (qb rfl (qz Cu rfl (qa rfl (Ad (Ab (Ab (Aa Ac rfl (qL Ee DQ rfl (qL A0 Ay rfl ?_))))))))))))
 obtain ⟨v1, a1, h⟩ := bind_some h
 refine AH [] (Kq N p0 p1 v1 a1) YV rfl (qa rfl (Ad (Ab (Aa Ac rfl (qm rfl (Cw rfl (Ad ?_)))))))
 refine Ap rfl (fun c2 => ?_) (fun c2 => ?_)
 ·have h := Am c2 h
  refine Ab (Aa Ac rfl (BO Cu HQ rfl (qm rfl (qs Ay rfl (qa rfl (Ad ?_))))))
  obtain rfl := sj h
  refine Al ((AF 6 0 2001 1 _ rfl rfl rfl rfl).trans ((AF 6 1 2002 1 _ rfl rfl rfl rfl).trans ((AF 6 2 2003 1 _ rfl rfl rfl rfl).trans (sm [(1000, 2001), (1001, 2002), (1002, 2003)] [(6, oD (.ptr 6 0)), (7, iD v1)] [(6, .box [.own 1000, .own 1001, .own 1002]), (1000, .vec 1 ((([] : List Int)).map Ai)), (1001, .vec 1 ((([] : List Int)).map Ai)), (1002, .vec 1 ((([] : List Int)).map Bg))] rfl rfl)))) (Az ?_)
  exact ⟨⟨[_, _], ⟨.cellN _ _ _ _ _ _ _ rfl rfl A0 Ay rfl rfl (Jb rfl), ⟨.tmp _ _ rfl, tv⟩⟩, rfl⟩, ⟨rfl, rfl, rfl, tv⟩⟩
 ·have h := An c2 h
  refine Aq (Ab (Ab (Aa Ac rfl (qL Im Ej rfl ?_))))
  obtain ⟨v3, a3, h⟩ := bind_some h
  refine AH [] (Kp N p2 v3 a3) Ze rfl (B7 rfl (Ad ?_))
  refine Ap rfl (fun c4 => ?_) (fun c4 => ?_)
  ·have h := Am c4 h
   refine Ab (Aa Ac rfl (BO Cu HQ rfl (qs Ay rfl (qa rfl (Ad ?_)))))
   obtain rfl := sj h
   refine Al ((AF 6 0 2004 1 _ rfl rfl rfl rfl).trans ((AF 6 1 2005 1 _ rfl rfl rfl rfl).trans ((AF 6 2 2006 1 _ rfl rfl rfl rfl).trans (sm [(1000, 2004), (1001, 2005), (1002, 2006)] [(6, oD (.ptr 6 0)), (7, iD 1)] [(6, .box [.own 1000, .own 1001, .own 1002]), (1000, .vec 1 ((([] : List Int)).map Ai)), (1001, .vec 1 ((([] : List Int)).map Ai)), (1002, .vec 1 ((([] : List Int)).map Bg))] rfl rfl)))) (Az ?_)
   exact ⟨⟨[_, _], ⟨.cellN _ _ _ _ _ _ _ rfl rfl A0 Ay rfl rfl (Jb rfl), ⟨.tmp _ _ rfl, tv⟩⟩, rfl⟩, ⟨rfl, rfl, rfl, tv⟩⟩
  ·have h := An c4 h
   refine Aq (Ab ?_)
   refine AU h (fun v5 => mk [(3, oD (.ptr 3 0)), (4, oD (.ptr 4 0)), (5, oD (.ptr 5 0)), (6, oD (.ptr 6 0)), (45, bD v5)] [(3, .box [sC (p0.fVersions.map Ai), sC (p0.fNow.map Ai), sC (p0.fTarget.map Ai), sC (p0.fTables.map Ao)]), (4, .box [sC (p1.fBase.map Ai), sC (p1.fNext.map Ai), sC (p1.fHeld.map Bg)]), (5, .box [iC p2.fKind, iC p2.fIndex, iC p2.fVersion]), (6, .box [.pure (.nil0), .pure (.nil0), .pure (.nil0)])]) (fun j5 h => ?_) (fun v5 h => ?_)
   ·refine Aa Ac rfl (qf Fu rfl (ql Cs rfl (BM rfl (qm rfl ?_))))
    refine AG (t := 25) rfl (fun c6 => ?_) (fun c6 => ?_)
    ·have h := Am c6 h
     refine qf ET rfl (ql Cs rfl (qf CO rfl (ql He rfl (AZ Ed rfl (Dz rfl (qp rfl (qm rfl ?_)))))))
     refine AG (t := 33) rfl (fun c7 => ?_) (fun c7 => ?_)
     ·have h := Am c7 h
      refine qn rfl (qn rfl (qn rfl (qn rfl (qu rfl (qu rfl (qu rfl (qu rfl (qu rfl (qu rfl (qn rfl (qp rfl (Ad ?_))))))))))))
      exact Aw _ h (sm [] _ _ rfl rfl)
     ·have h := An c7 h
      refine qf Fu rfl (ql Cs rfl (Cw rfl (qm rfl ?_)))
      refine AG (t := 37) rfl (fun c8 => ?_) (fun c8 => ?_)
      ·have h := Am c8 h
       refine qf ET rfl (ql Cs rfl (qf BB rfl (ql Bh rfl (AZ AJ rfl (Dz rfl (qp rfl (qp rfl (Ad ?_))))))))
       exact Aw _ h (sm [] _ _ rfl rfl)
      ·have h := An c8 h
       refine qn rfl (qn rfl (qn rfl (qn rfl (qn rfl (qn rfl (qp rfl (qp rfl (Ad ?_))))))))
       exact Aw _ h (sm [] _ _ rfl rfl)
    ·have h := An c6 h
     refine qn rfl (qn rfl (qn rfl (qn rfl (qn rfl (qn rfl (qp rfl (qm rfl (qf Fu rfl (ql Cs rfl (Cw rfl (qm rfl ?_)))))))))))
     refine AG (t := 37) rfl (fun c9 => ?_) (fun c9 => ?_)
     ·have h := Am c9 h
      refine qf ET rfl (ql Cs rfl (qf BB rfl (ql Bh rfl (AZ AJ rfl (Dz rfl (qp rfl (qp rfl (Ad ?_))))))))
      exact Aw _ h (sm [] _ _ rfl rfl)
     ·have h := An c9 h
      refine qn rfl (qn rfl (qn rfl (qn rfl (qn rfl (qn rfl (qp rfl (qp rfl (Ad ?_))))))))
      exact Aw _ h (sm [] _ _ rfl rfl)
   ·refine Ap rfl (fun c10 => ?_) (fun c10 => ?_)
    ·have h := Am c10 h
     refine Ab (Aa Ac rfl (BO Cu HQ rfl (qs Ay rfl (qa rfl (Ad ?_)))))
     obtain rfl := sj h
     refine Al ((AF 6 0 2007 1 _ rfl rfl rfl rfl).trans ((AF 6 1 2008 1 _ rfl rfl rfl rfl).trans ((AF 6 2 2009 1 _ rfl rfl rfl rfl).trans (sm [(1000, 2007), (1001, 2008), (1002, 2009)] [(6, oD (.ptr 6 0)), (7, iD 4)] [(6, .box [.own 1000, .own 1001, .own 1002]), (1000, .vec 1 ((([] : List Int)).map Ai)), (1001, .vec 1 ((([] : List Int)).map Ai)), (1002, .vec 1 ((([] : List Int)).map Bg))] rfl rfl)))) (Az ?_)
     exact ⟨⟨[_, _], ⟨.cellN _ _ _ _ _ _ _ rfl rfl A0 Ay rfl rfl (Jb rfl), ⟨.tmp _ _ rfl, tv⟩⟩, rfl⟩, ⟨rfl, rfl, rfl, tv⟩⟩
    ·have h := An c10 h
     refine Aq (Ab ?_)
     refine AU h (fun v11 => mk [(3, oD (.ptr 3 0)), (4, oD (.ptr 4 0)), (5, oD (.ptr 5 0)), (6, oD (.ptr 6 0)), (60, bD v11)] [(3, .box [sC (p0.fVersions.map Ai), sC (p0.fNow.map Ai), sC (p0.fTarget.map Ai), sC (p0.fTables.map Ao)]), (4, .box [sC (p1.fBase.map Ai), sC (p1.fNext.map Ai), sC (p1.fHeld.map Bg)]), (5, .box [iC p2.fKind, iC p2.fIndex, iC p2.fVersion]), (6, .box [.pure (.nil0), .pure (.nil0), .pure (.nil0)])]) (fun j11 h => ?_) (fun v11 h => ?_)
     ·refine Aa Ac rfl (qf Fu rfl (ql Cs rfl (BM rfl (qm rfl ?_))))
      refine AG (t := 50) rfl (fun c12 => ?_) (fun c12 => ?_)
      ·have h := Am c12 h
       refine qf GD rfl (ql Cs rfl (qf BB rfl (ql Bh rfl (qf ET rfl (ql Cs rfl ?_)))))
       obtain ⟨v13, a13, b13, h⟩ := Aj h
       refine qi AJ DA a13 (Ah b13) rfl (qk Cs rfl (Dz rfl (qp rfl (AQ (by kernel_rfl) ?_))))
       exact Aw _ h (sm [] _ _ rfl rfl)
      ·have h := An c12 h
       refine qn rfl (qn rfl (qn rfl (qn rfl (qn rfl (qn rfl (qn rfl (qn rfl (qn rfl (qp rfl (AQ (by kernel_rfl) ?_))))))))))
       exact Aw _ h (sm [] _ _ rfl rfl)
     ·refine Ap rfl (fun c14 => ?_) (fun c14 => ?_)
      ·have h := Am c14 h
       refine Ab (Aa Ac rfl (BO Cu HQ rfl (qs Ay rfl (qa rfl (Ad ?_)))))
       obtain rfl := sj h
       refine Al ((AF 6 0 2010 1 _ rfl rfl rfl rfl).trans ((AF 6 1 2011 1 _ rfl rfl rfl rfl).trans ((AF 6 2 2012 1 _ rfl rfl rfl rfl).trans (sm [(1000, 2010), (1001, 2011), (1002, 2012)] [(6, oD (.ptr 6 0)), (7, iD 4)] [(6, .box [.own 1000, .own 1001, .own 1002]), (1000, .vec 1 ((([] : List Int)).map Ai)), (1001, .vec 1 ((([] : List Int)).map Ai)), (1002, .vec 1 ((([] : List Int)).map Bg))] rfl rfl)))) (Az ?_)
       exact ⟨⟨[_, _], ⟨.cellN _ _ _ _ _ _ _ rfl rfl A0 Ay rfl rfl (Jb rfl), ⟨.tmp _ _ rfl, tv⟩⟩, rfl⟩, ⟨rfl, rfl, rfl, tv⟩⟩
      ·have h := An c14 h
       refine Aq (Ab (Aa Ac rfl (qL Ee DQ rfl (qL A0 Ay rfl (qL Im Ej rfl ?_)))))
       obtain ⟨v15, a15, h⟩ := bind_some h
       refine AH [2013, 2014, 2015] (Gl N p0 p1 p2 v15 a15) W1 rfl (qm rfl (qx rfl (qx rfl (qz Cu rfl (qs Ay rfl (qa rfl (Ad (Ab (Ab (Aa Ac rfl (qm rfl (B7 rfl (Ad ?_)))))))))))))
       refine Ap rfl (fun c16 => ?_) (fun c16 => ?_)
       ·have h := Am c16 h
        refine Ab (Aa Ac rfl (BO Cu HQ rfl (qs Ay rfl (qa rfl (Ad ?_)))))
        obtain rfl := sj h
        refine Al ((AF 6 0 2016 1 _ rfl rfl rfl rfl).trans ((AF 6 1 2017 1 _ rfl rfl rfl rfl).trans ((AF 6 2 2018 1 _ rfl rfl rfl rfl).trans (sm [(1000, 2016), (1001, 2017), (1002, 2018)] [(6, oD (.ptr 6 0)), (7, iD 11)] [(6, .box [.own 1000, .own 1001, .own 1002]), (1000, .vec 1 ((([] : List Int)).map Ai)), (1001, .vec 1 ((([] : List Int)).map Ai)), (1002, .vec 1 ((([] : List Int)).map Bg))] rfl rfl)))) (Az ?_)
        exact ⟨⟨[_, _], ⟨.cellN _ _ _ _ _ _ _ rfl rfl A0 Ay rfl rfl (Jb rfl), ⟨.tmp _ _ rfl, tv⟩⟩, rfl⟩, ⟨rfl, rfl, rfl, tv⟩⟩
       ·have h := An c16 h
        refine Aq (Ab (Aa Ac rfl (qL A0 Ay rfl (qs Ay rfl (qa rfl (Ad ?_))))))
        obtain rfl := sj h
        refine Al (sm [(1000, 2013), (1001, 2014), (1002, 2015)] [(6, oD (.ptr 6 0)), (7, iD 0)] [(6, .box [.own 1000, .own 1001, .own 1002]), (1000, .vec 1 (v15.1.fBase.map Ai)), (1001, .vec 1 (v15.1.fNext.map Ai)), (1002, .vec 1 (v15.1.fHeld.map Bg))] rfl rfl) (Az ?_)
        exact ⟨⟨[_, _], ⟨.cellN _ _ _ _ _ _ _ rfl rfl A0 Ay rfl rfl (Jb rfl), ⟨.tmp _ _ rfl, tv⟩⟩, rfl⟩, ⟨rfl, rfl, rfl, tv⟩⟩
theorem Kn (N : Nat) (p0 : Ag) (p1 : Ae) (r : (List Ak)) (h : Et N p0 p1 = some r) : AE Tryz.prog 51 [.e (.agg [sC (p0.fVersions.map Ai), sC (p0.fNow.map Ai), sC (p0.fTarget.map Ai), sC (p0.fTables.map Ao)]), .e (.agg [sC (p1.fBase.map Ai), sC (p1.fNext.map Ai), sC (p1.fHeld.map Bg)])] [(3, r.map AL)] (oD (.own 0)) := by
 unfold Et at h
 refine Ar (n := 49) (rs := [.tmp 4]) Tryz.func51 rfl rfl rfl (A7 rfl) (A7 rfl) rfl fun w0 S0 => ?_
 refine Ab (Aa Ac rfl (qb rfl (qb rfl (qa rfl (Ad (Ab (Aa Ac rfl (qa rfl (Ad (Ab (Ab (Aa Ac rfl (qa rfl (Ad ?_))))))))))))))
 refine AK (L := BA N p0 p1) h (fun v1 => mk [(2, oD (.ptr 2 0)), (3, oD (.ptr 3 0)), (5, oD (.own 2001)), (6, iD v1.2)] [(2, .box [sC (p0.fVersions.map Ai), sC (p0.fNow.map Ai), sC (p0.fTarget.map Ai), sC (p0.fTables.map Ao)]), (3, .box [sC (p1.fBase.map Ai), sC (p1.fNext.map Ai), sC (p1.fHeld.map Bg)]), (2001, .vec 3 (v1.1.map AL))]) (fun v2 => mk [(5, oD (.own 2002))] [(2002, .vec 3 (v2.map AL))]) (fun _ _ => rfl) ((Bn 5 2011 3 rfl rfl rfl).trans (sm [(2001, 2011)] _ _ rfl rfl)) (fun j1 n1 v1 h => ?_) (fun v2 s h hs => ?_)
 ·unfold BA at h
  refine Ab (Ab (Aa Ac rfl (qm rfl (KB rfl (Ad ?_)))))
  refine Ap rfl (fun c3 => ?_) (fun c3 => ?_)
  ·have h := Am c3 h
   refine Aq (Ab (AR (Ab (Aa Ac rfl (qa rfl (Ad ?_))))))
   refine AK (L := B9 N p0 p1 v1) h (fun v4 => mk [(2, oD (.ptr 2 0)), (3, oD (.ptr 3 0)), (5, oD (.own 2003)), (6, iD v1.2), (7, iD v4.2)] [(2, .box [sC (p0.fVersions.map Ai), sC (p0.fNow.map Ai), sC (p0.fTarget.map Ai), sC (p0.fTables.map Ao)]), (3, .box [sC (p1.fBase.map Ai), sC (p1.fNext.map Ai), sC (p1.fHeld.map Bg)]), (2003, .vec 3 (v4.1.map AL))]) (fun v5 => mk [(2, oD (.ptr 2 0)), (3, oD (.ptr 3 0)), (5, oD (.own 2004)), (6, iD v1.2)] [(2, .box [sC (p0.fVersions.map Ai), sC (p0.fNow.map Ai), sC (p0.fTarget.map Ai), sC (p0.fTables.map Ao)]), (3, .box [sC (p1.fBase.map Ai), sC (p1.fNext.map Ai), sC (p1.fHeld.map Bg)]), (2004, .vec 3 (v5.map AL))]) (fun _ _ => rfl) (sm [(2003, 2001)] _ _ rfl rfl) (fun j4 n4 v4 h => ?_) (fun v5 s h hs => ?_)
   ·unfold B9 at h
    refine Ab (Ab (Aa Ac rfl (qm rfl (qf BB rfl (ql Bh rfl (AZ AJ rfl (qf CO rfl (ql He rfl (AZ Ed rfl ?_)))))))))
    refine Ys (.p rfl) rfl rfl ?_
    refine A1 rfl (Ad ?_)
    refine Ap rfl (fun c6 => ?_) (fun c6 => ?_)
    ·have h := Am c6 h
     refine Aq (Ab (AR (Ab (Aa Ac rfl (qa rfl (Ad ?_))))))
     refine AK (L := B8 N p0 p1 v1 v4) h (fun v7 => mk [(2, oD (.ptr 2 0)), (3, oD (.ptr 3 0)), (5, oD (.own 2005)), (6, iD v1.2), (7, iD v4.2), (8, iD v7.2)] [(2, .box [sC (p0.fVersions.map Ai), sC (p0.fNow.map Ai), sC (p0.fTarget.map Ai), sC (p0.fTables.map Ao)]), (3, .box [sC (p1.fBase.map Ai), sC (p1.fNext.map Ai), sC (p1.fHeld.map Bg)]), (2005, .vec 3 (v7.1.map AL))]) (fun v8 => mk [(2, oD (.ptr 2 0)), (3, oD (.ptr 3 0)), (5, oD (.own 2006)), (6, iD v1.2), (7, iD v4.2)] [(2, .box [sC (p0.fVersions.map Ai), sC (p0.fNow.map Ai), sC (p0.fTarget.map Ai), sC (p0.fTables.map Ao)]), (3, .box [sC (p1.fBase.map Ai), sC (p1.fNext.map Ai), sC (p1.fHeld.map Bg)]), (2006, .vec 3 (v8.map AL))]) (fun _ _ => rfl) (sm [(2005, 2003)] _ _ rfl rfl) (fun j7 n7 v7 h => ?_) (fun v8 s h hs => ?_)
     ·unfold B8 at h
      refine Ab (Ab (Aa Ac rfl (qm rfl (A1 rfl (Ad ?_)))))
      refine Ap rfl (fun c9 => ?_) (fun c9 => ?_)
      ·have h := Am c9 h
       refine Aq ?_
       refine AU h (fun v10 => mk [(2, oD (.ptr 2 0)), (3, oD (.ptr 3 0)), (5, oD (.own 2007)), (6, iD v1.2), (7, iD v4.2), (8, iD v7.2)] [(2, .box [sC (p0.fVersions.map Ai), sC (p0.fNow.map Ai), sC (p0.fTarget.map Ai), sC (p0.fTables.map Ao)]), (3, .box [sC (p1.fBase.map Ai), sC (p1.fNext.map Ai), sC (p1.fHeld.map Bg)]), (2007, .vec 3 (v10.map AL))]) (fun j10 h => ?_) (fun v10 h => ?_)
       ·refine AR (Ab (Aa Ac rfl (qm rfl (qm rfl (qm rfl (BO HO Tk rfl (qz HO rfl (qs Ej rfl (Ad (Ab (Aa Ac rfl (qL Ee DQ rfl (qL A0 Ay rfl (qL Im Ej rfl ?_))))))))))))))
        obtain ⟨v11, a11, h⟩ := bind_some h
        refine AH [2008, 2009, 2010] (Kk N p0 p1 ((Ak.mk v1.2 v4.2 v7.2)) v11 a11) Y8 rfl (qm rfl (qx rfl (qx rfl (qz Cu rfl (qs Ay rfl (qa rfl (Ad (Ab (Aa Ac rfl (qm rfl (BM rfl (Ad ?_))))))))))))
        refine Ap rfl (fun c12 => ?_) (fun c12 => ?_)
        ·have h := Am c12 h
         refine Aa Ac rfl (qm rfl (qL Im Ej rfl (D6 Do Ej HO rfl ?_)))
         obtain ⟨c13, h⟩ := AN h
         refine Da (f := AL) Do Do Ej MW HO c13 rfl (qa rfl (Ad ?_))
         exact Aw _ h (sm [(2007, 47)] _ _ rfl rfl)
        ·have h := An c12 h
         refine Aq ?_
         exact Aw _ h (sm [(2007, 2005)] _ _ rfl rfl)
       ·refine Aa Ac rfl (qm rfl (AY rfl (qa rfl (Ad ?_))))
        exact Aw _ h (sm [(2005, 2007)] _ _ rfl rfl)
      ·have h := An c9 h
       refine AW ?_
       exact Aw _ h (sm [(2006, 2005)] _ _ rfl rfl)
     ·refine Al hs (Aa Ac rfl (qm rfl (AY rfl (qa rfl (Ad ?_)))))
      exact Aw _ h (sm [(2003, 2006)] _ _ rfl rfl)
    ·have h := An c6 h
     refine AW ?_
     exact Aw _ h (sm [(2004, 2003)] _ _ rfl rfl)
   ·refine Al hs (Aa Ac rfl (qm rfl (AY rfl (qa rfl (Ad ?_)))))
    exact Aw _ h (sm [(2001, 2004)] _ _ rfl rfl)
  ·have h := An c3 h
   refine AW ?_
   exact Aw _ h (sm [(2002, 2001)] _ _ rfl rfl)
 ·refine Al hs (Ab (Aa Ac rfl (qm rfl (qa rfl (Ad ?_)))))
  obtain rfl := sj h
  refine Al (sm [(1000, 2002)] [(4, oD (.own 1000))] [(1000, .vec 3 (v2.map AL))] rfl rfl) (Az ?_)
  exact ⟨⟨[_], ⟨.tmp _ _ rfl, tv⟩, rfl⟩, ⟨rfl, tv⟩⟩
theorem KK (N : Nat) (p0 : Ag) (p1 : Ae) (r : (List Ak)) (h : Ez N p0 p1 = some r) : AE Tryz.prog 26 [.e (.agg [sC (p0.fVersions.map Ai), sC (p0.fNow.map Ai), sC (p0.fTarget.map Ai), sC (p0.fTables.map Ao)]), .e (.agg [sC (p1.fBase.map Ai), sC (p1.fNext.map Ai), sC (p1.fHeld.map Bg)])] [(3, r.map AL)] (oD (.own 0)) := by
 unfold Ez at h
 refine Ar (n := 40) (rs := [.tmp 4]) Tryz.func26 rfl rfl rfl (A7 rfl) (A7 rfl) rfl fun w0 S0 => ?_
 refine Ab (Aa Ac rfl (qb rfl (qb rfl (qa rfl (Ad (Ab (Aa Ac rfl (qL Ee DQ rfl (qL A0 Ay rfl ?_)))))))))
 obtain ⟨v1, a1, h⟩ := bind_some h
 refine AH [2001] (Kn N p0 p1 v1 a1) YN rfl (qa rfl (Ad (Ab (Aa Ac rfl (qa rfl (Ad (Ab (Ab (Aa Ac rfl (qa rfl (Ad ?_)))))))))))
 refine AK (L := C8 N p0 p1 v1) h (fun v2 => mk [(2, oD (.ptr 2 0)), (3, oD (.ptr 3 0)), (5, oD (.own 2002)), (6, oD (.own 2003)), (7, iD v2.2)] [(2, .box [sC (p0.fVersions.map Ai), sC (p0.fNow.map Ai), sC (p0.fTarget.map Ai), sC (p0.fTables.map Ao)]), (3, .box [sC (p1.fBase.map Ai), sC (p1.fNext.map Ai), sC (p1.fHeld.map Bg)]), (2002, .vec 3 (v1.map AL)), (2003, .vec 3 (v2.1.map AL))]) (fun v3 => mk [(6, oD (.own 2004))] [(2004, .vec 3 (v3.map AL))]) (fun _ _ => rfl) ((Bn 6 2010 3 rfl rfl rfl).trans (sm [(2002, 2001), (2003, 2010)] _ _ rfl rfl)) (fun j2 n2 v2 h => ?_) (fun v3 s h hs => ?_)
 ·unfold C8 at h
  refine Ab (Ab (Aa Ac rfl (qm rfl (qm rfl (Dh Do rfl (A1 rfl (Ad ?_)))))))
  refine Ap rfl (fun c4 => ?_) (fun c4 => ?_)
  ·have h := Am c4 h
   refine Aq ?_
   refine AU h (fun v5 => mk [(2, oD (.ptr 2 0)), (3, oD (.ptr 3 0)), (5, oD (.own 2005)), (6, oD (.own 2006)), (7, iD v2.2)] [(2, .box [sC (p0.fVersions.map Ai), sC (p0.fNow.map Ai), sC (p0.fTarget.map Ai), sC (p0.fTables.map Ao)]), (3, .box [sC (p1.fBase.map Ai), sC (p1.fNext.map Ai), sC (p1.fHeld.map Bg)]), (2005, .vec 3 (v1.map AL)), (2006, .vec 3 (v5.map AL))]) (fun j5 h => ?_) (fun v5 h => ?_)
   ·refine AR (Ab (Aa Ac rfl (qL Ee DQ rfl (qL A0 Ay rfl (qm rfl (qm rfl ?_))))))
    obtain ⟨v6, a6, b6, h⟩ := Aj h
    refine qI Do Ej a6 (Ah b6) rfl (qJ Im Ej (Ah b6) rfl ?_)
    obtain ⟨v7, a7, h⟩ := bind_some h
    refine AH [2007, 2008, 2009] (Gl N p0 p1 v6 v7 a7) W1 rfl (qm rfl (qx rfl (qx rfl (qz Cu rfl (qs Ay rfl (qa rfl (AQ (by kernel_rfl) (Ab (Aa Ac rfl (qL Ee DQ rfl (qL A0 Ay rfl ?_)))))))))))
    obtain ⟨v8, a8, h⟩ := bind_some h
    refine FT [] [2007, 2008, 2009] (Fz N p0 v7.1 v8 a8) Wo Ex rfl (Ad ?_)
    refine Ap rfl (fun c9 => ?_) (fun c9 => ?_)
    ·have h := Am c9 h
     refine Aa Ac rfl (qm rfl (qm rfl (qm rfl ?_)))
     obtain ⟨v10, a10, b10, h⟩ := Aj h
     refine qI Do Ej a10 (Ah b10) rfl (qJ Im Ej (Ah b10) rfl (D6 Do Ej HO rfl ?_))
     obtain ⟨c11, h⟩ := AN h
     refine Da (f := AL) Do Do Ej MW HO c11 rfl (qa rfl (Ad ?_))
     exact Aw _ h (sm [(2005, 2002), (2006, 38)] _ _ rfl rfl)
    ·have h := An c9 h
     refine Aq ?_
     exact Aw _ h (sm [(2005, 2002), (2006, 2003)] _ _ rfl rfl)
   ·refine Aa Ac rfl (qm rfl (AY rfl (qa rfl (Ad ?_))))
    exact Aw _ h (sm [(2002, 2005), (2003, 2006)] _ _ rfl rfl)
  ·have h := An c4 h
   refine AW ?_
   exact Aw _ h (sm [(2004, 2003)] _ _ rfl rfl)
 ·refine Al hs (Ab (Aa Ac rfl (qm rfl (qa rfl (Ad ?_)))))
  obtain rfl := sj h
  refine Al (sm [(1000, 2004)] [(4, oD (.own 1000))] [(1000, .vec 3 (v3.map AL))] rfl rfl) (Az ?_)
  exact ⟨⟨[_], ⟨.tmp _ _ rfl, tv⟩, rfl⟩, ⟨rfl, tv⟩⟩
theorem GH (N : Nat) (p0 : List Int) (p1 : List Int) (r : Int) (h : Dk N p0 p1 = some r) : AE Tryz.prog 73 [pD (.sl (p0.map Ai)), pD (.sl (p1.map Ai))] [] (iD r) := by
 unfold Dk at h
 refine Ar (n := 46) (rs := [.tmp 4]) Tryz.func73 rfl rfl rfl (A7 rfl) (A7 rfl) rfl fun w0 S0 => ?_
 refine Ab (Aa Ac rfl (qa rfl (Ad (Ab (Ab (Aa Ac rfl (qa rfl (Ad ?_))))))))
 refine AK (L := Dd N p0 p1) h (fun v1 => mk [(0, pD (.sl (p0.map Ai))), (1, pD (.sl (p1.map Ai))), (5, iD v1)] []) (fun v2 => mk [(0, pD (.sl (p0.map Ai))), (1, pD (.sl (p1.map Ai)))] []) (fun _ _ => rfl) (sm [] _ _ rfl rfl) (fun j1 n1 v1 h => ?_) (fun v2 s h hs => ?_)
 ·unfold Dd at h
  refine Ab ?_
  refine AU h (fun v3 => mk [(0, pD (.sl (p0.map Ai))), (1, pD (.sl (p1.map Ai))), (5, iD v1), (15, bD v3)] []) (fun j3 h => ?_) (fun v3 h => ?_)
  ·refine Aa Ac rfl (qm rfl (qm rfl (AZ AJ rfl (A1 rfl (qm rfl ?_)))))
   refine AG (t := 10) rfl (fun c4 => ?_) (fun c4 => ?_)
   ·have h := Am c4 h
    refine qm rfl (qm rfl (AZ AJ rfl (A1 rfl (qp rfl (Ad ?_)))))
    exact Aw _ h (sm [] _ _ rfl rfl)
   ·have h := An c4 h
    refine qn rfl (qn rfl (qn rfl (qn rfl (qp rfl (Ad ?_)))))
    exact Aw _ h (sm [] _ _ rfl rfl)
  ·refine Ap rfl (fun c5 => ?_) (fun c5 => ?_)
   ·have h := Am c5 h
    refine Aq (Ab (AR (Ab (Ab (Aa Ac rfl (qm rfl (qm rfl ?_)))))))
    obtain ⟨v6, a6, b6, h⟩ := Aj h
    refine qi AJ DA a6 (Ah b6) rfl (qk Cs rfl (qm rfl (qm rfl ?_)))
    obtain ⟨v7, a7, b7, h⟩ := Aj h
    refine qi AJ DA a7 (Ah b7) rfl (qk Cs rfl (A1 rfl (AQ (by kernel_rfl) ?_)))
    refine Ap rfl (fun c8 => ?_) (fun c8 => ?_)
    ·have h := Am c8 h
     refine Ab (Aa Ac rfl (qa rfl (Ad ?_)))
     obtain rfl := sj h
     refine Al (sm [] [(4, iD ((-1)))] [] rfl rfl) (Az ?_)
     exact ⟨⟨[_], ⟨.tmp _ _ rfl, tv⟩, rfl⟩, tv⟩
    ·have h := An c8 h
     refine Aq (Ab (Aa Ac rfl (qm rfl (qm rfl ?_))))
     obtain ⟨v9, a9, b9, h⟩ := Aj h
     refine qi AJ DA a9 (Ah b9) rfl (qk Cs rfl (qm rfl (qm rfl ?_)))
     obtain ⟨v10, a10, b10, h⟩ := Aj h
     refine qi AJ DA a10 (Ah b10) rfl (qk Cs rfl (Fh rfl (AQ (by kernel_rfl) ?_)))
     refine Ap rfl (fun c11 => ?_) (fun c11 => ?_)
     ·have h := Am c11 h
      refine Ab (Aa Ac rfl (qa rfl (Ad ?_)))
      obtain rfl := sj h
      refine Al (sm [] [(4, iD 1)] [] rfl rfl) (Az ?_)
      exact ⟨⟨[_], ⟨.tmp _ _ rfl, tv⟩, rfl⟩, tv⟩
     ·have h := An c11 h
      refine Aq (Aa Ac rfl (qm rfl (AY rfl (qa rfl (Ad ?_)))))
      exact Aw _ h (sm [] _ _ rfl rfl)
   ·have h := An c5 h
    refine AW ?_
    exact Aw _ h (sm [] _ _ rfl rfl)
 ·refine Al hs (Ab (Ab (Aa Ac rfl (qm rfl (AZ AJ rfl (qm rfl (AZ AJ rfl (A1 rfl (Ad ?_)))))))))
  refine Ap rfl (fun c12 => ?_) (fun c12 => ?_)
  ·have h := Am c12 h
   refine Ab (Aa Ac rfl (qa rfl (Ad ?_)))
   obtain rfl := sj h
   refine Al (sm [] [(4, iD ((-1)))] [] rfl rfl) (Az ?_)
   exact ⟨⟨[_], ⟨.tmp _ _ rfl, tv⟩, rfl⟩, tv⟩
  ·have h := An c12 h
   refine Aq (Ab (Ab (Aa Ac rfl (qm rfl (AZ AJ rfl (qm rfl (AZ AJ rfl (Fh rfl (Ad ?_)))))))))
   refine Ap rfl (fun c13 => ?_) (fun c13 => ?_)
   ·have h := Am c13 h
    refine Ab (Aa Ac rfl (qa rfl (Ad ?_)))
    obtain rfl := sj h
    refine Al (sm [] [(4, iD 1)] [] rfl rfl) (Az ?_)
    exact ⟨⟨[_], ⟨.tmp _ _ rfl, tv⟩, rfl⟩, tv⟩
   ·have h := An c13 h
    refine Aq (Ab (Aa Ac rfl (qa rfl (Ad ?_))))
    obtain rfl := sj h
    refine Al (sm [] [(4, iD 0)] [] rfl rfl) (Az ?_)
    exact ⟨⟨[_], ⟨.tmp _ _ rfl, tv⟩, rfl⟩, tv⟩
theorem Hp (N : Nat) (p0 : List Int) (r : (List Int)) (h : C9 N p0 = some r) : AE Tryz.prog 74 [pD (.sl (p0.map Bg))] [(1, r.map Ai)] (oD (.own 0)) := by
 unfold C9 at h
 refine Ar (n := 20) (rs := [.tmp 2]) Tryz.func74 rfl rfl rfl (A7 rfl) (A7 rfl) rfl fun w0 S0 => ?_
 refine Ab (Aa Ac rfl (qa rfl (Ad (Ab (Aa Ac rfl (qa rfl (Ad (Ab (Ab (Aa Ac rfl (qa rfl (Ad ?_))))))))))))
 refine AK (L := CG N p0) h (fun v1 => mk [(0, pD (.sl (p0.map Bg))), (3, oD (.own 2001)), (4, iD v1.2)] [(2001, .vec 1 (v1.1.map Ai))]) (fun v2 => mk [(3, oD (.own 2002))] [(2002, .vec 1 (v2.map Ai))]) (fun _ _ => rfl) ((Bn 3 2003 1 rfl rfl rfl).trans (sm [(2001, 2003)] _ _ rfl rfl)) (fun j1 n1 v1 h => ?_) (fun v2 s h hs => ?_)
 ·unfold CG at h
  refine Ab (Ab (Aa Ac rfl (qm rfl (qm rfl (AZ C4 rfl (A1 rfl (Ad ?_)))))))
  refine Ap rfl (fun c3 => ?_) (fun c3 => ?_)
  ·have h := Am c3 h
   refine Aq (Ab (AR (Aa Ac rfl (qm rfl (qm rfl (qm rfl ?_))))))
   obtain ⟨v4, a4, b4, h⟩ := Aj h
   refine qi C4 FE a4 (Ah b4) rfl (qk Jl rfl (G5 Zb S5 rfl (D6 AJ DA KE rfl ?_)))
   obtain ⟨c5, h⟩ := AN h
   refine Da (f := Ai) AJ AJ DA LQ KE c5 rfl (qa rfl (Ad (Aa Ac rfl (qm rfl (AY rfl (qa rfl (Ad ?_)))))))
   exact Aw _ h (sm [(2001, 18)] _ _ rfl rfl)
  ·have h := An c3 h
   refine AW ?_
   exact Aw _ h (sm [(2002, 2001)] _ _ rfl rfl)
 ·refine Al hs (Ab (Aa Ac rfl (qm rfl (qa rfl (Ad ?_)))))
  obtain rfl := sj h
  refine Al (sm [(1000, 2002)] [(2, oD (.own 1000))] [(1000, .vec 1 (v2.map Ai))] rfl rfl) (Az ?_)
  exact ⟨⟨[_], ⟨.tmp _ _ rfl, tv⟩, rfl⟩, ⟨rfl, tv⟩⟩
theorem Ho (N : Nat) (p0 : Ae) (p1 : Ae) (r : Int) (h : CI N p0 p1 = some r) : AE Tryz.prog 54 [.e (.agg [sC (p0.fBase.map Ai), sC (p0.fNext.map Ai), sC (p0.fHeld.map Bg)]), .e (.agg [sC (p1.fBase.map Ai), sC (p1.fNext.map Ai), sC (p1.fHeld.map Bg)])] [] (iD r) := by
 unfold CI at h
 refine Ar (n := 30) (rs := [.tmp 4]) Tryz.func54 rfl rfl rfl (A7 rfl) (A7 rfl) rfl fun w0 S0 => ?_
 refine Ab (Aa Ac rfl (qb rfl (qb rfl (qa rfl (Ad (Ab (Ab (Aa Ac rfl (qf CS rfl (ql Bh rfl (qf CS rfl (ql Bh rfl ?_))))))))))))
 obtain ⟨v1, a1, h⟩ := bind_some h
 refine AH [] (GH N p0.fBase p1.fBase v1 a1) WR rfl (qa rfl (Ad (Ab (Aa Ac rfl (qm rfl (Cw rfl (Ad ?_)))))))
 refine Ap rfl (fun c2 => ?_) (fun c2 => ?_)
 ·have h := Am c2 h
  refine Ab (Aa Ac rfl (qm rfl (qa rfl (Ad ?_))))
  obtain rfl := sj h
  refine Al (sm [] [(4, iD v1)] [] rfl rfl) (Az ?_)
  exact ⟨⟨[_], ⟨.tmp _ _ rfl, tv⟩, rfl⟩, tv⟩
 ·have h := An c2 h
  refine Aq (Ab (Ab (Aa Ac rfl (qf BH rfl (ql Bh rfl (qf BH rfl (ql Bh rfl ?_)))))))
  obtain ⟨v3, a3, h⟩ := bind_some h
  refine AH [] (GH N p0.fNext p1.fNext v3 a3) WR rfl (qa rfl (Ad (Ab (Aa Ac rfl (qm rfl (Cw rfl (Ad ?_)))))))
  refine Ap rfl (fun c4 => ?_) (fun c4 => ?_)
  ·have h := Am c4 h
   refine Ab (Aa Ac rfl (qm rfl (qa rfl (Ad ?_))))
   obtain rfl := sj h
   refine Al (sm [] [(4, iD v3)] [] rfl rfl) (Az ?_)
   exact ⟨⟨[_], ⟨.tmp _ _ rfl, tv⟩, rfl⟩, tv⟩
  ·have h := An c4 h
   refine Aq (Ab (Aa Ac rfl (qf CC rfl (ql GN rfl ?_))))
   obtain ⟨v5, a5, h⟩ := bind_some h
   refine AH [2001] (Hp N p0.fHeld v5 a5) X2 rfl (qf CC rfl (ql GN rfl ?_))
   obtain ⟨v6, a6, h⟩ := bind_some h
   refine AH [2002] (Hp N p1.fHeld v6 a6) X2 rfl ?_
   obtain ⟨v7, a7, h⟩ := bind_some h
   refine FT [] [2001, 2002] (GH N v5 v6 v7 a7) WR Ex rfl (qa rfl (AQ (by kernel_rfl) ?_))
   obtain rfl := sj h
   refine Al (sm [] [(4, iD v7)] [] rfl rfl) (Az ?_)
   exact ⟨⟨[_], ⟨.tmp _ _ rfl, tv⟩, rfl⟩, tv⟩
theorem HR (N : Nat) (p0 : Ae) (p1 : Ae) (r : Bool) (h : CX N p0 p1 = some r) : AE Tryz.prog 30 [.e (.agg [sC (p0.fBase.map Ai), sC (p0.fNext.map Ai), sC (p0.fHeld.map Bg)]), .e (.agg [sC (p1.fBase.map Ai), sC (p1.fNext.map Ai), sC (p1.fHeld.map Bg)])] [] (bD r) := by
 unfold CX at h
 refine Ar (n := 9) (rs := [.tmp 4]) Tryz.func30 rfl rfl rfl (A7 rfl) (A7 rfl) rfl fun w0 S0 => ?_
 refine Ab (Aa Ac rfl (qb rfl (qb rfl (qa rfl (Ad (Ab (Aa Ac rfl (qL A0 Ay rfl (qL A0 Ay rfl ?_)))))))))
 obtain ⟨v1, a1, h⟩ := bind_some h
 refine AH [] (Ho N p0 p1 v1 a1) XQ rfl (BM rfl (qa rfl (Ad ?_)))
 obtain rfl := sj h
 refine Al (sm [] [(4, bD ((v1 == 0)))] [] rfl rfl) (Az ?_)
 exact ⟨⟨[_], ⟨.tmp _ _ rfl, tv⟩, rfl⟩, tv⟩
theorem LY (N : Nat) (p0 : List Ae) (p1 : Ae) (r : Bool) (h : FQ N p0 p1 = some r) : AE Tryz.prog 25 [pD (.sl (p0.map Af)), .e (.agg [sC (p1.fBase.map Ai), sC (p1.fNext.map Ai), sC (p1.fHeld.map Bg)])] [] (bD r) := by
 unfold FQ at h
 refine Ar (n := 18) (rs := [.tmp 4]) Tryz.func25 rfl rfl rfl (A7 rfl) (A7 rfl) rfl fun w0 S0 => ?_
 refine Ab (Aa Ac rfl (qb rfl (qa rfl (Ad (Ab (Ab (Aa Ac rfl (qa rfl (Ad ?_)))))))))
 refine AK (L := DI N p0 p1) h (fun v1 => mk [(0, pD (.sl (p0.map Af))), (3, oD (.ptr 3 0)), (5, iD v1)] [(3, .box [sC (p1.fBase.map Ai), sC (p1.fNext.map Ai), sC (p1.fHeld.map Bg)])]) (fun v2 => mk [] []) (fun _ _ => rfl) (sm [] _ _ rfl rfl) (fun j1 n1 v1 h => ?_) (fun v2 s h hs => ?_)
 ·unfold DI at h
  refine Ab (Ab (Aa Ac rfl (qm rfl (qm rfl (AZ AM rfl (A1 rfl (Ad ?_)))))))
  refine Ap rfl (fun c3 => ?_) (fun c3 => ?_)
  ·have h := Am c3 h
   refine Aq (Ab (AR (Ab (Aa Ac rfl (qm rfl (qm rfl ?_))))))
   obtain ⟨v4, a4, b4, h⟩ := Aj h
   refine qi AM Ay a4 (Ah b4) rfl (qK A0 Ay rfl (qL A0 Ay rfl ?_))
   obtain ⟨v5, a5, h⟩ := bind_some h
   refine AH [] (HR N v4 p1 v5 a5) Xm rfl (AQ (by kernel_rfl) ?_)
   refine Ap rfl (fun c6 => ?_) (fun c6 => ?_)
   ·have h := Am c6 h
    refine Ab (Aa Ac rfl (qa rfl (Ad ?_)))
    obtain rfl := sj h
    refine Al (sm [] [(4, bD true)] [] rfl rfl) (Az ?_)
    exact ⟨⟨[_], ⟨.tmp _ _ rfl, tv⟩, rfl⟩, tv⟩
   ·have h := An c6 h
    refine Aq (Aa Ac rfl (qm rfl (AY rfl (qa rfl (Ad ?_)))))
    exact Aw _ h (sm [] _ _ rfl rfl)
  ·have h := An c3 h
   refine AW ?_
   exact Aw _ h (sm [] _ _ rfl rfl)
 ·refine Al hs (Ab (Aa Ac rfl (qa rfl (Ad ?_))))
  obtain rfl := sj h
  refine Al (sm [] [(4, bD false)] [] rfl rfl) (Az ?_)
  exact ⟨⟨[_], ⟨.tmp _ _ rfl, tv⟩, rfl⟩, tv⟩
theorem Ll (N : Nat) (p0 : List Ae) (p1 : Ae) (r : (List Ae)) (h : EL N p0 p1 = some r) : L7 Tryz.prog 44 [oD (.own 90900), .e (.agg [sC (p1.fBase.map Ai), sC (p1.fNext.map Ai), sC (p1.fHeld.map Bg)])] (.vec 3 (p0.map Af)) [.vec 3 (r.map Af)] (oD (.own 0)) := by
 unfold EL at h
 refine Nt (n := 43) (rs := [.tmp 4]) Tryz.func44 rfl rfl rfl (A7 rfl) (A7 rfl) rfl rfl rfl (A7 rfl) fun w0 S0 GL => ?_
 refine Al (sm [] [(0, oD (.own 90900)), (1, .e (.agg [sC (p1.fBase.map Ai), sC (p1.fNext.map Ai), sC (p1.fHeld.map Bg)]))] [(90900, .vec 3 (p0.map Af))] rfl rfl) (Ab (Aa Ac rfl (qb rfl (qa rfl (Ad (Ab (Ab (Aa Ac rfl (qa rfl (Ad ?_))))))))))
 refine AK (L := Dp N p0 p1) h (fun v1 => mk [(0, oD (.own 90900)), (3, oD (.ptr 3 0)), (5, iD v1)] [(3, .box [sC (p1.fBase.map Ai), sC (p1.fNext.map Ai), sC (p1.fHeld.map Bg)]), (90900, .vec 3 (p0.map Af))]) (fun v2 => mk [(0, oD (.own 90900)), (3, oD (.ptr 3 0))] [(3, .box [sC (p1.fBase.map Ai), sC (p1.fNext.map Ai), sC (p1.fHeld.map Bg)]), (90900, .vec 3 (p0.map Af))]) (fun _ _ => rfl) (sm [] _ _ rfl rfl) (fun j1 n1 v1 h => ?_) (fun v2 s h hs => ?_)
 ·unfold Dp at h
  refine Ab (Ab (Aa Ac rfl (qm rfl (qm rfl (Dh AM rfl (A1 rfl (Ad ?_)))))))
  refine Ap rfl (fun c3 => ?_) (fun c3 => ?_)
  ·have h := Am c3 h
   refine Aq (Ab (AR (Ab (Aa Ac rfl (qm rfl (qm rfl ?_))))))
   obtain ⟨v4, a4, b4, h⟩ := Aj h
   refine qI AM Ay a4 (Ah b4) rfl (qJ A0 Ay (Ah b4) rfl (qL A0 Ay rfl ?_))
   obtain ⟨v5, a5, h⟩ := bind_some h
   refine AH [] (Ho N v4 p1 v5 a5) XQ rfl (qa rfl (AQ (by kernel_rfl) (Ab (Ab (Aa Ac rfl (qm rfl (BM rfl (Ad ?_))))))))
   refine Ap rfl (fun c6 => ?_) (fun c6 => ?_)
   ·have h := Am c6 h
    refine Ab (Aa Ac rfl (qm rfl (qa rfl (Ad ?_))))
    obtain rfl := sj h
    refine Al (Na (rn [(90950, 90900)]) [(4, oD (.own 90950))] [(90950, .vec 3 (p0.map Af))] ⟨rfl, tv⟩ ⟨rfl, tv⟩ rfl rfl) (Az ?_)
    exact ⟨⟨[_], ⟨.tmp _ _ rfl, tv⟩, rfl⟩, ⟨rfl, tv⟩⟩
   ·have h := An c6 h
    refine Aq (Ab (Aa Ac rfl (qm rfl (Fh rfl (Ad ?_)))))
    refine Ap rfl (fun c7 => ?_) (fun c7 => ?_)
    ·have h := Am c7 h
     refine Ab (Aa Ac rfl (D6 AM Ay Cu rfl (qm rfl (qm rfl ?_))))
     obtain ⟨c8, h⟩ := AN h
     have w9 : 0 + ((v1).toNat) ≤ p0.length := by have := c8.2.1; have := c8.2.2; omega
     refine Hh Af p0 (.p rfl) rfl (Gt Af _ _ p0) rfl AM Ay (.none _) (.some _ _ _ _ c8.1) tv ⟨rfl, tv⟩ c8.2.1 (by rw [Nat.zero_add]; exact c8.2.2) (Nat.zero_add _) rfl ?_
     obtain ⟨c10, h⟩ := AN h
     refine Pb (.p rfl) rfl (.own _ _ _) ⟨rfl, tv⟩ rfl (LN Af _ _ 0 ((v1).toNat) p0 w9) ⟨rfl, tv⟩ rfl AM AM Ay JN (A7 rfl) Cu rfl (PU (f := Af) (g := Af) (xs := (([] : List Ae))) (ys := (((p0.drop 0).take ((v1).toNat)))) c10) (P1 Af (([] : List Ae)) (((p0.drop 0).take ((v1).toNat)))) rfl ?_
     refine qa rfl (Ad (Ab (Aa Ac rfl (qm rfl (qL A0 Ay rfl (D6 AM Ay Cu rfl ?_))))))
     obtain ⟨c11, h⟩ := AN h
     refine Da (f := Af) AM AM Ay JN Cu c11 rfl (qa rfl (Ad (Ab (Aa Ac rfl (qm rfl (qm rfl (qm rfl ?_)))))))
     obtain ⟨c12, h⟩ := AN h
     have w13 : ((v1).toNat) + ((p0.length - (v1).toNat)) ≤ p0.length := by have := c12.2.1; have := c12.2.2; omega
     refine Hh Af p0 (.p rfl) rfl (Gt Af _ _ p0) rfl AM Ay (.some _ _ _ _ c12.1) (.none _) ⟨rfl, tv⟩ tv c12.2.1 (by rw [Nat.zero_add]; exact c12.2.2) (Nat.zero_add _) rfl ?_
     obtain ⟨c14, h⟩ := AN h
     refine Pb (.p rfl) rfl (.own _ _ _) ⟨rfl, tv⟩ rfl (LN Af _ _ ((v1).toNat) ((p0.length - (v1).toNat)) p0 w13) ⟨rfl, tv⟩ rfl AM AM Ay JN (A7 rfl) Cu rfl (PU (f := Af) (g := Af) (xs := (((([] : List Ae)) ++ (((p0.drop 0).take ((v1).toNat)))) ++ (([p1] : List Ae)))) (ys := (((p0.drop ((v1).toNat)).take ((p0.length - (v1).toNat))))) c14) (P1 Af (((([] : List Ae)) ++ (((p0.drop 0).take ((v1).toNat)))) ++ (([p1] : List Ae))) (((p0.drop ((v1).toNat)).take ((p0.length - (v1).toNat))))) rfl ?_
     refine qa rfl (Ad ?_)
     obtain rfl := sj h
     refine Al (Na (rn [(90950, 38)]) [(4, oD (.own 90950))] [(90950, .vec 3 (((((([] : List Ae)) ++ (((p0.drop 0).take ((v1).toNat)))) ++ (([p1] : List Ae))) ++ (((p0.drop ((v1).toNat)).take ((p0.length - (v1).toNat))))).map Af))] ⟨rfl, tv⟩ ⟨rfl, tv⟩ rfl rfl) (Az ?_)
     exact ⟨⟨[_], ⟨.tmp _ _ rfl, tv⟩, rfl⟩, ⟨rfl, tv⟩⟩
    ·have h := An c7 h
     refine Aq (Aa Ac rfl (qm rfl (AY rfl (qa rfl (Ad ?_)))))
     exact Aw _ h (sm [] _ _ rfl rfl)
  ·have h := An c3 h
   refine AW ?_
   exact Aw _ h (sm [] _ _ rfl rfl)
 ·refine Al hs (Ab (Aa Ac rfl (qm rfl (qL A0 Ay rfl (D6 AM Ay Cu rfl ?_)))))
  obtain ⟨c15, h⟩ := AN h
  refine SA (nn := 90902) (.p rfl) rfl rfl rfl (Qc Af _ _ _) ⟨rfl, tv⟩ rfl rfl AM AM Ay JN (A7 rfl) Cu rfl (PU (f := Af) (g := Af) (xs := p0) (ys := (([p1] : List Ae))) c15) (P1 Af p0 (([p1] : List Ae))) ?_
  refine qa rfl (Ad ?_)
  obtain rfl := sj h
  refine Al (Na (rn [(90950, 90902)]) [(4, oD (.own 90950))] [(90950, .vec 3 ((p0 ++ (([p1] : List Ae))).map Af))] ⟨rfl, tv⟩ ⟨rfl, tv⟩ rfl rfl) (Az ?_)
  exact ⟨⟨[_], ⟨.tmp _ _ rfl, tv⟩, rfl⟩, ⟨rfl, tv⟩⟩
theorem JG (N : Nat) (p0 : Ag) (p1 : Int) (r : (List Ae) × Bool) (h : Ec N p0 p1 = some r) : AE Tryz.prog 17 [.e (.agg [sC (p0.fVersions.map Ai), sC (p0.fNow.map Ai), sC (p0.fTarget.map Ai), sC (p0.fTables.map Ao)]), iD p1] [(3, r.1.map Af)] (.tup [.one (.own 0), .one (.pure (.val (.bool r.2)))]) := by
 unfold Ec at h
 refine Ar (n := 83) (rs := [.tmp 4, .tmp 5]) Tryz.func17 rfl rfl rfl (A7 rfl) (A7 rfl) rfl fun w0 S0 => ?_
 refine Ab (Aa Ac rfl (qb rfl (qa rfl (qa rfl (Ad (Ab (Aa Ac rfl (qL Ee DQ rfl ?_))))))))
 obtain ⟨v1, a1, h⟩ := bind_some h
 refine AH [2001, 2002, 2003] (Kl N p0 v1 a1) ZB rfl (qm rfl (qx rfl (qx rfl (qz Cu rfl (qs Ay rfl (qa rfl (Ad (Ab (Ab (Aa Ac rfl (qL Ee DQ rfl (qL A0 Ay rfl ?_))))))))))))
 obtain ⟨v2, a2, h⟩ := bind_some h
 refine FT [] [2001, 2002, 2003] (Fz N p0 v1.1 v2 a2) Wo Ex rfl (B7 rfl (Ad ?_))
 refine Ap rfl (fun c3 => ?_) (fun c3 => ?_)
 ·have h := Am c3 h
  refine Ab (Aa Ac rfl (qa rfl (qa rfl (Ad ?_))))
  obtain rfl := sj h
  refine Al ((Bn 4 2004 3 rfl rfl rfl).trans (sm [(1000, 2004)] [(4, oD (.own 1000)), (5, bD true)] [(1000, .vec 3 ((([] : List Ae)).map Af))] rfl rfl)) (Az ?_)
  exact ⟨⟨[_, _], ⟨.tmp _ _ rfl, ⟨.tmp _ _ rfl, tv⟩⟩, rfl⟩, ⟨rfl, tv⟩⟩
 ·have h := An c3 h
  refine Aq (Ab (Aa Ac rfl (qL A0 Ay rfl (CL (A4 2001 _ _ rfl rfl) (CL (A4 2002 _ _ rfl rfl) (CL (A4 2003 _ _ rfl rfl) (D6 AM Ay Cu rfl (qa rfl (Ad (Ab (Ab (Aa Ac rfl (qa rfl (Ad ?_))))))))))))))
  refine AK (L := Cq N p0 p1) h (fun v4 => mk [(1, iD p1), (2, oD (.ptr 2 0)), (8, oD (.own 2005)), (9, iD v4.2)] [(2, .box [sC (p0.fVersions.map Ai), sC (p0.fNow.map Ai), sC (p0.fTarget.map Ai), sC (p0.fTables.map Ao)]), (2005, .vec 3 (v4.1.map Af))]) (fun v5 => mk [(8, oD (.own 2006))] [(2006, .vec 3 (v5.map Af))]) (fun _ _ => rfl) (sm [(2005, 26)] _ _ rfl rfl) (fun j4 n4 v4 h => ?_) (fun v5 s h hs => ?_)
  ·unfold Cq at h
   refine Ab (Ab (Aa Ac rfl (qm rfl (qm rfl (Dh AM rfl (A1 rfl (Ad ?_)))))))
   refine Ap rfl (fun c6 => ?_) (fun c6 => ?_)
   ·have h := Am c6 h
    refine Aq (Ab (AR (Ab (Aa Ac rfl (qL Ee DQ rfl (qm rfl (qm rfl ?_)))))))
    obtain ⟨v7, a7, b7, h⟩ := Aj h
    refine qI AM Ay a7 (Ah b7) rfl (qJ A0 Ay (Ah b7) rfl ?_)
    obtain ⟨v8, a8, h⟩ := bind_some h
    refine AH [2007] (KK N p0 v7 v8 a8) Zv rfl (qa rfl (AQ (by kernel_rfl) (Ab (Aa Ac rfl (qa rfl (Ad ?_))))))
    refine AK (L := BV N p0 p1 v4 v8) h (fun v9 => mk [(1, iD p1), (2, oD (.ptr 2 0)), (8, oD (.own 2008)), (9, iD v4.2), (10, oD (.own 2009)), (11, iD v9.2)] [(2, .box [sC (p0.fVersions.map Ai), sC (p0.fNow.map Ai), sC (p0.fTarget.map Ai), sC (p0.fTables.map Ao)]), (2008, .vec 3 (v9.1.map Af)), (2009, .vec 3 (v8.map AL))]) (fun v10 => mk [(1, iD p1), (2, oD (.ptr 2 0)), (8, oD (.own 2010)), (9, iD v4.2)] [(2, .box [sC (p0.fVersions.map Ai), sC (p0.fNow.map Ai), sC (p0.fTarget.map Ai), sC (p0.fTables.map Ao)]), (2010, .vec 3 (v10.map Af))]) (fun _ _ => rfl) (sm [(2008, 2005), (2009, 2007)] _ _ rfl rfl) (fun j9 n9 v9 h => ?_) (fun v10 s h hs => ?_)
    ·unfold BV at h
     refine Ab (Ab (Aa Ac rfl (qm rfl (qm rfl (Dh Do rfl (A1 rfl (Ad ?_)))))))
     refine Ap rfl (fun c11 => ?_) (fun c11 => ?_)
     ·have h := Am c11 h
      refine Aq (Ab (AR (Ab (Aa Ac rfl (qL Ee DQ rfl (qm rfl (qm rfl ?_)))))))
      obtain ⟨v12, a12, b12, h⟩ := Aj h
      refine qI AM Ay a12 (Ah b12) rfl (qJ A0 Ay (Ah b12) rfl (qm rfl (qm rfl ?_)))
      obtain ⟨v13, a13, b13, h⟩ := Aj h
      refine qI Do Ej a13 (Ah b13) rfl (qJ Im Ej (Ah b13) rfl ?_)
      obtain ⟨v14, a14, h⟩ := bind_some h
      refine AH [2011, 2012, 2013] (Gl N p0 v12 v13 v14 a14) W1 rfl (qm rfl (qx rfl (qx rfl (qz Cu rfl (qs Ay rfl (qa rfl (AQ (by kernel_rfl) ?_)))))))
      refine AU h (fun v15 => mk [(1, iD p1), (2, oD (.ptr 2 0)), (8, oD (.own 2014)), (9, iD v4.2), (10, oD (.own 2015)), (11, iD v9.2)] [(2, .box [sC (p0.fVersions.map Ai), sC (p0.fNow.map Ai), sC (p0.fTarget.map Ai), sC (p0.fTables.map Ao)]), (2014, .vec 3 (v15.map Af)), (2015, .vec 3 (v8.map AL))]) (fun j15 h => ?_) (fun v15 h => ?_)
      ·refine Ab (Aa Ac rfl (qm rfl (qL A0 Ay rfl ?_)))
       obtain ⟨v16, a16, h⟩ := bind_some h
       refine FT [] [2008, 2011, 2012, 2013] (LY N v9.1 v14.1 v16 a16) YQ Ex rfl (B7 rfl (Ad ?_))
       refine Ap rfl (fun c17 => ?_) (fun c17 => ?_)
       ·have h := Am c17 h
        refine Aa Ac rfl (qm rfl (qL A0 Ay rfl (CL (A4 2011 _ _ rfl rfl) (CL (A4 2012 _ _ rfl rfl) (CL (A4 2013 _ _ rfl rfl) (D6 AM Ay Cu rfl ?_))))))
        obtain ⟨c18, h⟩ := AN h
        refine Da (f := Af) AM AM Ay JN Cu c18 rfl (qa rfl (Ad ?_))
        exact Aw _ h (sm [(2014, 65), (2015, 2009)] _ _ rfl rfl)
       ·have h := An c17 h
        refine Aq ?_
        exact Aw _ h (sm [(2014, 2008), (2015, 2009)] _ _ rfl rfl)
      ·refine Ab (Aa Ac rfl (qm rfl (Dh AM rfl (qm rfl (Fh rfl (Ad ?_))))))
       refine Ap rfl (fun c19 => ?_) (fun c19 => ?_)
       ·have h := Am c19 h
        refine Ab (Aa Ac rfl (qa rfl (qa rfl (Ad ?_))))
        obtain rfl := sj h
        refine Al ((Bn 4 2016 3 rfl rfl rfl).trans (sm [(1000, 2016)] [(4, oD (.own 1000)), (5, bD false)] [(1000, .vec 3 ((([] : List Ae)).map Af))] rfl rfl)) (Az ?_)
        exact ⟨⟨[_, _], ⟨.tmp _ _ rfl, ⟨.tmp _ _ rfl, tv⟩⟩, rfl⟩, ⟨rfl, tv⟩⟩
       ·have h := An c19 h
        refine Aq (Aa Ac rfl (qm rfl (AY rfl (qa rfl (Ad ?_)))))
        exact Aw _ h (sm [(2008, 2014), (2009, 2015)] _ _ rfl rfl)
     ·have h := An c11 h
      refine AW ?_
      exact Aw _ h (sm [(2010, 2008)] _ _ rfl rfl)
    ·refine Al hs (Aa Ac rfl (qm rfl (AY rfl (qa rfl (Ad ?_)))))
     exact Aw _ h (sm [(2005, 2010)] _ _ rfl rfl)
   ·have h := An c6 h
    refine AW ?_
    exact Aw _ h (sm [(2006, 2005)] _ _ rfl rfl)
  ·refine Al hs (Ab (Aa Ac rfl (qa rfl (Ad (Ab (Ab (Aa Ac rfl (qa rfl (Ad ?_)))))))))
   refine AK (L := Ce N v5) h (fun v20 => mk [(8, oD (.own 2017)), (14, oD (.own 2018)), (15, iD v20.2)] [(2017, .vec 3 (v5.map Af)), (2018, .vec 3 (v20.1.map Af))]) (fun v21 => mk [(14, oD (.own 2019))] [(2019, .vec 3 (v21.map Af))]) (fun _ _ => rfl) ((Bn 14 2021 3 rfl rfl rfl).trans (sm [(2017, 2006), (2018, 2021)] _ _ rfl rfl)) (fun j20 n20 v20 h => ?_) (fun v21 s h hs => ?_)
   ·unfold Ce at h
    refine Ab (Ab (Aa Ac rfl (qm rfl (qm rfl (Dh AM rfl (A1 rfl (Ad ?_)))))))
    refine Ap rfl (fun c22 => ?_) (fun c22 => ?_)
    ·have h := Am c22 h
     refine Aq (Ab (AR (Aa Ac rfl (qm rfl (qm rfl (qm rfl ?_))))))
     obtain ⟨v23, a23, b23, h⟩ := Aj h
     refine qI AM Ay a23 (Ah b23) rfl (qJ A0 Ay (Ah b23) rfl ?_)
     obtain ⟨v24, a24, h⟩ := bind_some h
     refine U4 (ds0 := [_, _]) 2018 [2020] (Ll N v20.1 v23 v24 a24) (.p rfl) YJ rfl ⟨rfl, rfl, tv⟩ rfl rfl rfl rfl rfl rfl ⟨rfl, tv⟩ rfl rfl rfl ?_
     refine qa rfl (Ad (Aa Ac rfl (qm rfl (AY rfl (qa rfl (Ad ?_))))))
     exact Aw _ h (sm [(2018, 2020)] _ _ rfl rfl)
    ·have h := An c22 h
     refine AW ?_
     exact Aw _ h (sm [(2019, 2018)] _ _ rfl rfl)
   ·refine Al hs (Ab (Aa Ac rfl (qm rfl (qa rfl (qa rfl (Ad ?_))))))
    obtain rfl := sj h
    refine Al (sm [(1000, 2019)] [(4, oD (.own 1000)), (5, bD true)] [(1000, .vec 3 (v21.map Af))] rfl rfl) (Az ?_)
    exact ⟨⟨[_, _], ⟨.tmp _ _ rfl, ⟨.tmp _ _ rfl, tv⟩⟩, rfl⟩, ⟨rfl, tv⟩⟩
theorem KO (N : Nat) (p0 : List Ae) (p1 : List Ae) (r : Bool) (h : Dg N p0 p1 = some r) : AE Tryz.prog 16 [pD (.sl (p0.map Af)), pD (.sl (p1.map Af))] [] (bD r) := by
 unfold Dg at h
 refine Ar (n := 27) (rs := [.tmp 4]) Tryz.func16 rfl rfl rfl (A7 rfl) (A7 rfl) rfl fun w0 S0 => ?_
 refine Ab (Aa Ac rfl (qa rfl (Ad (Ab (Ab (Aa Ac rfl (qm rfl (AZ AM rfl (qm rfl (AZ AM rfl (Cw rfl (Ad ?_))))))))))))
 refine Ap rfl (fun c1 => ?_) (fun c1 => ?_)
 ·have h := Am c1 h
  refine Ab (Aa Ac rfl (qa rfl (Ad ?_)))
  obtain rfl := sj h
  refine Al (sm [] [(4, bD false)] [] rfl rfl) (Az ?_)
  exact ⟨⟨[_], ⟨.tmp _ _ rfl, tv⟩, rfl⟩, tv⟩
 ·have h := An c1 h
  refine Aq (Ab (Ab (Aa Ac rfl (qa rfl (Ad ?_)))))
  refine AK (L := CH N p0 p1) h (fun v2 => mk [(0, pD (.sl (p0.map Af))), (1, pD (.sl (p1.map Af))), (5, iD v2)] []) (fun v3 => mk [] []) (fun _ _ => rfl) (sm [] _ _ rfl rfl) (fun j2 n2 v2 h => ?_) (fun v3 s h hs => ?_)
  ·unfold CH at h
   refine Ab (Ab (Aa Ac rfl (qm rfl (qm rfl (AZ AM rfl (A1 rfl (Ad ?_)))))))
   refine Ap rfl (fun c4 => ?_) (fun c4 => ?_)
   ·have h := Am c4 h
    refine Aq (Ab (AR (Ab (Aa Ac rfl (qm rfl (qm rfl ?_))))))
    obtain ⟨v5, a5, b5, h⟩ := Aj h
    refine qi AM Ay a5 (Ah b5) rfl (qK A0 Ay rfl (qm rfl (qm rfl ?_)))
    obtain ⟨v6, a6, b6, h⟩ := Aj h
    refine qi AM Ay a6 (Ah b6) rfl (qK A0 Ay rfl ?_)
    obtain ⟨v7, a7, h⟩ := bind_some h
    refine AH [] (HR N v5 v6 v7 a7) Xm rfl (B7 rfl (AQ (by kernel_rfl) ?_))
    refine Ap rfl (fun c8 => ?_) (fun c8 => ?_)
    ·have h := Am c8 h
     refine Ab (Aa Ac rfl (qa rfl (Ad ?_)))
     obtain rfl := sj h
     refine Al (sm [] [(4, bD false)] [] rfl rfl) (Az ?_)
     exact ⟨⟨[_], ⟨.tmp _ _ rfl, tv⟩, rfl⟩, tv⟩
    ·have h := An c8 h
     refine Aq (Aa Ac rfl (qm rfl (AY rfl (qa rfl (Ad ?_)))))
     exact Aw _ h (sm [] _ _ rfl rfl)
   ·have h := An c4 h
    refine AW ?_
    exact Aw _ h (sm [] _ _ rfl rfl)
  ·refine Al hs (Ab (Aa Ac rfl (qa rfl (Ad ?_))))
   obtain rfl := sj h
   refine Al (sm [] [(4, bD true)] [] rfl rfl) (Az ?_)
   exact ⟨⟨[_], ⟨.tmp _ _ rfl, tv⟩, rfl⟩, tv⟩
theorem Iu (N : Nat) (p0 : Cg) (r : Bool) (h : CB N p0 = some r) : AE Tryz.prog 4 [.e (.agg [sC (p0.fVersions.map Bg), sC (p0.fNow.map Bg), sC (p0.fTarget.map Bg), sC (p0.fLinks.map Cf)])] [] (bD r) := by
 unfold CB at h
 refine Ar (n := 53) (rs := [.tmp 2]) Tryz.func4 rfl rfl rfl (A7 rfl) (A7 rfl) rfl fun w0 S0 => ?_
 refine Ab (Aa Ac rfl (qb rfl (qa rfl (Ad (Ab (Aa Ac rfl (qL ZD Zp rfl ?_)))))))
 obtain ⟨v1, a1, h⟩ := bind_some h
 refine AH [2001, 2002, 2003, 2004] (L1 N p0 v1 a1) ZJ rfl (qm rfl (qx rfl (qx rfl (qz SM rfl (qs DQ rfl (qa rfl (Ad (Ab ?_))))))))
 refine AU h (fun v2 => mk [(3, oD (.ptr 3 0)), (21, bD v2)] [(3, .box [.own 2005, .own 2006, .own 2007, .own 2008]), (2005, .vec 1 (v1.1.fVersions.map Ai)), (2006, .vec 1 (v1.1.fNow.map Ai)), (2007, .vec 1 (v1.1.fTarget.map Ai)), (2008, .vec 6 (v1.1.fTables.map Ao))]) (fun j2 h => ?_) (fun v2 h => ?_)
 ·refine Aa Ac rfl ?_
  obtain ⟨v3, a3, h⟩ := bind_some h
  refine AH [] (HU N v3 a3) Yc rfl (B7 rfl (qm rfl ?_))
  refine AG (t := 18) rfl (fun c4 => ?_) (fun c4 => ?_)
  ·have h := Am c4 h
   refine qn rfl (qn rfl (qp rfl (Ad ?_)))
   exact Aw _ h (sm [(2005, 2001), (2006, 2002), (2007, 2003), (2008, 2004)] _ _ rfl rfl)
  ·have h := An c4 h
   refine qm rfl (B7 rfl (qp rfl (Ad ?_)))
   exact Aw _ h (sm [(2005, 2001), (2006, 2002), (2007, 2003), (2008, 2004)] _ _ rfl rfl)
 ·refine Ap rfl (fun c5 => ?_) (fun c5 => ?_)
  ·have h := Am c5 h
   refine Ab (Aa Ac rfl ?_)
   obtain ⟨v6, a6, h⟩ := bind_some h
   refine AH [] (HU N v6 a6) Yc rfl (qa rfl (Ad ?_))
   obtain rfl := sj h
   refine Al (sm [] [(2, bD v6)] [] rfl rfl) (Az ?_)
   exact ⟨⟨[_], ⟨.tmp _ _ rfl, tv⟩, rfl⟩, tv⟩
  ·have h := An c5 h
   refine Aq (Ab (Aa Ac rfl (qL Ee DQ rfl (CL (A4 2005 _ _ rfl rfl) (CL (A4 2006 _ _ rfl rfl) (CL (A4 2007 _ _ rfl rfl) (CL (A4 2008 _ _ rfl rfl) ?_)))))))
   obtain ⟨v7, a7, h⟩ := bind_some h
   refine AH [2009] (JG N v1.1 400 v7 a7) YP rfl (qm rfl (qx rfl (qx rfl (qa rfl (qa rfl (Ad (Ab (Ab (Aa Ac rfl (qm rfl (B7 rfl (Ad ?_))))))))))))
   refine Ap rfl (fun c8 => ?_) (fun c8 => ?_)
   ·have h := Am c8 h
    refine Ab (Aa Ac rfl (qa rfl (Ad ?_)))
    obtain rfl := sj h
    refine Al (sm [] [(2, bD true)] [] rfl rfl) (Az ?_)
    exact ⟨⟨[_], ⟨.tmp _ _ rfl, tv⟩, rfl⟩, tv⟩
   ·have h := An c8 h
    refine Aq (Ab (Aa Ac rfl (qL Ee DQ rfl ?_)))
    obtain ⟨v9, a9, h⟩ := bind_some h
    refine AH [2010] (Io N v1.1 v9 a9) WJ rfl (qm rfl (qx rfl (qx rfl (qa rfl (qa rfl (Ad (Ab (Ab (Aa Ac rfl (qm rfl (Dh AM rfl (qm rfl (Ad ?_)))))))))))))
    refine AK (L := BZ N v1 v9) h (fun v10 => mk [(3, oD (.ptr 3 0)), (5, oD (.own 2011)), (7, oD (.own 2012)), (8, iD v9.2), (35, oD (.own 2012)), (36, iD ((v9.1.length : Int))), (37, iD v10)] [(3, .box [sC (v1.1.fVersions.map Ai), sC (v1.1.fNow.map Ai), sC (v1.1.fTarget.map Ai), sC (v1.1.fTables.map Ao)]), (2011, .vec 3 (v7.1.map Af)), (2012, .vec 3 (v9.1.map Af))]) (fun v11 => mk [(5, oD (.own 2013)), (7, oD (.own 2014)), (8, iD v9.2)] [(2013, .vec 3 (v7.1.map Af)), (2014, .vec 3 (v9.1.map Af))]) (fun _ _ => rfl) (sm [(2011, 2009), (2012, 2010)] _ _ rfl rfl) (fun j10 n10 v10 h => ?_) (fun v11 s h hs => ?_)
    ·unfold BZ at h
     refine Ab (Aa Ac rfl (A1 rfl (Ad (Ab ?_))))
     refine Ap rfl (fun c12 => ?_) (fun c12 => ?_)
     ·have h := Am c12 h
      refine Aq (Ab (AR (Ab (Aa Ac rfl ?_))))
      obtain ⟨v13, a13, b13, h⟩ := Aj h
      refine qI AM Ay a13 (Ah b13) rfl (qJ A0 Ay (Ah b13) rfl (qz Cu rfl (qs Ay rfl (Ad (Ab (Aa Ac rfl (qL Ee DQ rfl (qL A0 Ay rfl ?_))))))))
      obtain ⟨v14, a14, h⟩ := bind_some h
      refine AH [] (Fz N v1.1 v13 v14 a14) Wo rfl (B7 rfl (Ad ?_))
      refine Ap rfl (fun c15 => ?_) (fun c15 => ?_)
      ·have h := Am c15 h
       refine Ab (Aa Ac rfl (qa rfl (Ad ?_)))
       obtain rfl := sj h
       refine Al (sm [] [(2, bD false)] [] rfl rfl) (Az ?_)
       exact ⟨⟨[_], ⟨.tmp _ _ rfl, tv⟩, rfl⟩, tv⟩
      ·have h := An c15 h
       refine Aq (Aa Ac rfl (AY rfl (qm rfl (Ad ?_))))
       exact Aw _ h (sm [] _ _ rfl rfl)
     ·have h := An c12 h
      refine AW ?_
      exact Aw _ h (sm [(2013, 2011), (2014, 2012)] _ _ rfl rfl)
    ·refine Al hs ?_
     refine AU h (fun v16 => mk [(2, bD v16)] []) (fun j16 h => ?_) (fun v16 h => ?_)
     ·refine Aa Ac rfl (qm rfl (BM rfl (qm rfl ?_)))
      refine AG (t := 48) rfl (fun c17 => ?_) (fun c17 => ?_)
      ·have h := Am c17 h
       refine qm rfl (qm rfl ?_)
       obtain ⟨v18, a18, h⟩ := bind_some h
       refine FT [] [2014, 2013] (KO N v9.1 v7.1 v18 a18) Zf Ex rfl (qp rfl (qa rfl (Ad ?_)))
       exact Aw _ h (sm [] _ _ rfl rfl)
      ·have h := An c17 h
       refine qn rfl (qn rfl (qn rfl (qp rfl (qa rfl (Ad ?_)))))
       exact Aw _ h (sm [] _ _ rfl rfl)
     ·obtain rfl := sj h
      refine Al (sm [] [(2, bD v16)] [] rfl rfl) (Az ?_)
      exact ⟨⟨[_], ⟨.tmp _ _ rfl, tv⟩, rfl⟩, tv⟩
end Go.Lift
