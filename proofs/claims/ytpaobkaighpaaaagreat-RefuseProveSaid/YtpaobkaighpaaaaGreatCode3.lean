/- Lemmas for RefuseProveSaid, which YtpaobkaighpaaaaGreatFinR3 proves. -/
import Derived.Test.YtpaobkaighpaaaaGreatCode1
namespace Go.Lift
open IntKind renaming wrap → wI
set_option maxRecDepth 10000
open Go.RowKit
open Go.Proofs
theorem IQ (N : Nat) (p0 : Ah) (p1 : Af) (p2 : As) (r : Af × Bool) (h : C3 N p0 p1 p2 = some r) : AD Tryz.prog 73 [.e (.agg [sC (p0.fb.map Ak), sC (p0.ff.map Ak), sC (p0.fh.map Ak), sC (p0.fc.map Ar)]), .e (.agg [sC (p1.fd.map Ak), sC (p1.fa.map Ak), sC (p1.fe.map Bn)]), .e (.agg [iC p2.fg, iC p2.fj, iC p2.fo])] [(1, r.1.fd.map Ak), (1, r.1.fa.map Ak), (1, r.1.fe.map Bn)] (.tup [.agg [.own 0, .own 1, .own 2], .one (.pure (.val (.bool r.2)))]) := by
 unfold C3 at h
 refine Av (n := 201) (rs := [.cell 6 46, .tmp 7]) Tryz.func73 rfl rfl rfl (A6 rfl) (A6 rfl) rfl fun w0 S0 => ?_
 refine Ab (Aa Ac rfl (qb rfl (qb rfl (qb rfl (qz Cw rfl (qa rfl (Ae (Ab (Aa Ac rfl (DY AL Du KI rfl (qf CO rfl (ql Bo rfl ?_))))))))))))
 obtain ⟨c1, h⟩ := AU h
 refine JN (f := Ak) AL AL Du M4 KI (fun _ => rfl) c1 rfl (DY AL Du KI rfl (qf BH rfl (ql Bo rfl ?_)))
 obtain ⟨c2, h⟩ := AU h
 refine JN (f := Ak) AL AL Du M4 KI (fun _ => rfl) c2 rfl (DY Dr F5 Ob rfl (qf CU rfl (ql Hb rfl ?_)))
 obtain ⟨c3, h⟩ := AU h
 refine JN (f := Bn) Dr Dr F5 RK Ob (fun _ => rfl) c3 rfl (Bz Cw HB rfl (qz Cw rfl (qs Az rfl (AB (by kernel_rfl) (Ab (Aa Ac rfl (qf Fq rfl (ql Cm rfl (qa rfl (Ae ?_))))))))))
 refine AO h (fun v4 => mk [(6, oD (.ptr 6 0)), (8, oD (.ptr 8 0))] [(6, .box [.pure (.nil0), .pure (.nil0), .pure (.nil0)]), (8, .box [.own 2001, .own 2002, .own 2003]), (2001, .vec 1 (v4.1.map Ak)), (2002, .vec 1 (v4.2.1.map Ak)), (2003, .vec 1 (v4.2.2.map Bn))]) (fun j4 h => ?_) (fun v4 h => ?_)
 ·refine Ab (Aa Ac rfl (qf Ge rfl (ql Cm rfl (Ae (AK (Ab (Aa Ac rfl (BK rfl (qa rfl (Ae ?_))))))))))
  refine Ap rfl (fun c5 => ?_) (fun c5 => ?_)
  ·have h := Ao c5 h
   refine Ab ?_
   refine AO h (fun v6 => mk [(3, oD (.ptr 3 0)), (5, oD (.ptr 5 0)), (6, oD (.ptr 6 0)), (8, oD (.ptr 8 0)), (9, iD p2.fj), (60, bD v6)] [(3, .box [sC (p0.fb.map Ak), sC (p0.ff.map Ak), sC (p0.fh.map Ak), sC (p0.fc.map Ar)]), (5, .box [iC p2.fg, iC p2.fj, iC p2.fo]), (6, .box [.pure (.nil0), .pure (.nil0), .pure (.nil0)]), (8, .box [.own 2004, .own 2005, .own 2006]), (2004, .vec 1 (((([] : List Int)) ++ p1.fd).map Ak)), (2005, .vec 1 (((([] : List Int)) ++ p1.fa).map Ak)), (2006, .vec 1 (((([] : List Int)) ++ p1.fe).map Bn))]) (fun j6 h => ?_) (fun v6 h => ?_)
   ·refine Aa Ac rfl (qf BH rfl (ql Bo rfl (qm rfl ?_)))
    obtain ⟨v7, a7, b7, h⟩ := Aj h
    refine qi AL Du a7 (Ag b7) rfl (qk Cm rfl (Cz rfl (qm rfl ?_)))
    refine AF (t := 51) rfl (fun c8 => ?_) (fun c8 => ?_)
    ·have h := Ao c8 h
     refine qn rfl (qn rfl (qn rfl (qn rfl (qn rfl (qn rfl (qn rfl (qn rfl (qp rfl (AB (by kernel_rfl) ?_)))))))))
     exact Au _ h (sm [(2004, 18), (2005, 22), (2006, 26)] _ _ rfl rfl)
    ·have h := An c8 h
     refine qf Hs rfl (ql Cm rfl (qf CO rfl (ql Bo rfl (qm rfl ?_))))
     obtain ⟨v9, a9, b9, h⟩ := Aj h
     refine qi AL Du a9 (Ag b9) rfl (qk Cm rfl (BK rfl (qp rfl (AB (by kernel_rfl) ?_))))
     exact Au _ h (sm [(2004, 18), (2005, 22), (2006, 26)] _ _ rfl rfl)
   ·refine Ap rfl (fun c10 => ?_) (fun c10 => ?_)
    ·have h := Ao c10 h
     refine Ab (Aa Ac rfl (Bz Cw HB rfl (qs Az rfl (qa rfl (Ae ?_)))))
     obtain rfl := sj h
     refine Am ((AH 6 0 2007 1 _ rfl rfl rfl rfl).trans ((AH 6 1 2008 1 _ rfl rfl rfl rfl).trans ((AH 6 2 2009 1 _ rfl rfl rfl rfl).trans (sm [(1000, 2007), (1001, 2008), (1002, 2009)] [(6, oD (.ptr 6 0)), (7, bD false)] [(6, .box [.own 1000, .own 1001, .own 1002]), (1000, .vec 1 ((([] : List Int)).map Ak)), (1001, .vec 1 ((([] : List Int)).map Ak)), (1002, .vec 1 ((([] : List Int)).map Bn))] rfl rfl)))) (AA ?_)
     exact ⟨⟨[_, _], ⟨.cellN _ _ _ _ _ _ _ rfl rfl A7 Az rfl rfl (Jx rfl), ⟨.tmp _ _ rfl, tv⟩⟩, rfl⟩, ⟨rfl, rfl, rfl, tv⟩⟩
    ·have h := An c10 h
     refine Aq (Ab (Aa Ac rfl (qf BH rfl (ql Bo rfl (qm rfl (qf Hs rfl (ql Cm rfl ?_)))))))
     obtain ⟨v11, a11, b11, h⟩ := Aj h
     refine qI AL Du a11 (Ag b11) rfl ?_
     refine AY rfl rfl rfl rfl (Ag b11) rfl Du rfl (A6 rfl) (AZ Ak ((([] : List Int)) ++ p1.fa) _ p2.fo) ?_
     refine Ae (Ab (Aa Ac rfl (qa rfl (Ae ?_))))
     refine AE (L := Cg N p0 p2) h (fun v12 => mk [(3, oD (.ptr 3 0)), (5, oD (.ptr 5 0)), (6, oD (.ptr 6 0)), (8, oD (.ptr 8 0)), (9, iD p2.fj), (10, iD v12.2)] [(3, .box [sC (p0.fb.map Ak), sC (p0.ff.map Ak), sC (p0.fh.map Ak), sC (p0.fc.map Ar)]), (5, .box [iC p2.fg, iC p2.fj, iC p2.fo]), (6, .box [.pure (.nil0), .pure (.nil0), .pure (.nil0)]), (8, .box [.own 2010, .own 2011, .own 2012]), (2010, .vec 1 (((([] : List Int)) ++ p1.fd).map Ak)), (2011, .vec 1 ((((([] : List Int)) ++ p1.fa).set ((p2.fj).toNat) p2.fo).map Ak)), (2012, .vec 1 (v12.1.map Bn))]) (fun v13 => mk [(6, oD (.ptr 6 0)), (8, oD (.ptr 8 0))] [(6, .box [.pure (.nil0), .pure (.nil0), .pure (.nil0)]), (8, .box [.own 2013, .own 2014, .own 2015]), (2013, .vec 1 (((([] : List Int)) ++ p1.fd).map Ak)), (2014, .vec 1 ((((([] : List Int)) ++ p1.fa).set ((p2.fj).toNat) p2.fo).map Ak)), (2015, .vec 1 (v13.map Bn))]) (fun _ _ => rfl) (sm [(2010, 2004), (2011, 2005), (2012, 2006)] _ _ rfl rfl) (fun j12 n12 v12 h => ?_) (fun v13 s h hs => ?_)
     ·unfold Cg at h
      refine Ab (Ab (Aa Ac rfl (qm rfl (qf Dc rfl (ql Ia rfl (A1 EG rfl (AX rfl (Ae ?_))))))))
      refine Ap rfl (fun c14 => ?_) (fun c14 => ?_)
      ·have h := Ao c14 h
       refine Aq ?_
       refine AO h (fun v15 => mk [(3, oD (.ptr 3 0)), (5, oD (.ptr 5 0)), (6, oD (.ptr 6 0)), (8, oD (.ptr 8 0)), (9, iD p2.fj), (10, iD v12.2)] [(3, .box [sC (p0.fb.map Ak), sC (p0.ff.map Ak), sC (p0.fh.map Ak), sC (p0.fc.map Ar)]), (5, .box [iC p2.fg, iC p2.fj, iC p2.fo]), (6, .box [.pure (.nil0), .pure (.nil0), .pure (.nil0)]), (8, .box [.own 2016, .own 2017, .own 2018]), (2016, .vec 1 (((([] : List Int)) ++ p1.fd).map Ak)), (2017, .vec 1 ((((([] : List Int)) ++ p1.fa).set ((p2.fj).toNat) p2.fo).map Ak)), (2018, .vec 1 (v15.map Bn))]) (fun j15 h => ?_) (fun v15 h => ?_)
       ·refine AK ?_
        refine AO h (fun v16 => mk [(3, oD (.ptr 3 0)), (5, oD (.ptr 5 0)), (6, oD (.ptr 6 0)), (8, oD (.ptr 8 0)), (9, iD p2.fj), (10, iD v12.2), (90, bD v16)] [(3, .box [sC (p0.fb.map Ak), sC (p0.ff.map Ak), sC (p0.fh.map Ak), sC (p0.fc.map Ar)]), (5, .box [iC p2.fg, iC p2.fj, iC p2.fo]), (6, .box [.pure (.nil0), .pure (.nil0), .pure (.nil0)]), (8, .box [.own 2019, .own 2020, .own 2021]), (2019, .vec 1 (((([] : List Int)) ++ p1.fd).map Ak)), (2020, .vec 1 ((((([] : List Int)) ++ p1.fa).set ((p2.fj).toNat) p2.fo).map Ak)), (2021, .vec 1 (v12.1.map Bn))]) (fun j16 h => ?_) (fun v16 h => ?_)
        ·refine Aa Ac rfl (qf Dc rfl (ql Ia rfl (qm rfl ?_)))
         obtain ⟨v17, a17, b17, h⟩ := Aj h
         refine qi EG EO a17 (Ag b17) rfl (qg DI rfl (qk Cm rfl (qm rfl (BK rfl (qm rfl ?_)))))
         refine AF (t := 83) rfl (fun c18 => ?_) (fun c18 => ?_)
         ·have h := Ao c18 h
          refine qf Dc rfl (ql Ia rfl (qm rfl ?_))
          obtain ⟨v19, a19, b19, h⟩ := Aj h
          refine qi EG EO a19 (Ag b19) rfl (qK Io EO rfl ?_)
          obtain ⟨v20, a20, h⟩ := bind_some h
          refine AJ [] (CG N v19 v20 a20) QW rfl (qp rfl (Ae ?_))
          exact Au _ h (sm [(2019, 2010), (2020, 2011), (2021, 2012)] _ _ rfl rfl)
         ·have h := An c18 h
          refine qn rfl (qn rfl (qn rfl (qn rfl (qn rfl (qn rfl (qp rfl (Ae ?_)))))))
          exact Au _ h (sm [(2019, 2010), (2020, 2011), (2021, 2012)] _ _ rfl rfl)
        ·refine Ap rfl (fun c21 => ?_) (fun c21 => ?_)
         ·have h := Ao c21 h
          refine Aa Ac rfl (qf CU rfl (ql Hb rfl (qm rfl (qf CU rfl (ql Hb rfl (qm rfl ?_))))))
          obtain ⟨v22, a22, b22, h⟩ := Aj h
          refine qI Dr F5 a22 (Ag b22) rfl (qj Ky (Ag b22) rfl (qf Hs rfl (ql Cm rfl ?_)))
          obtain ⟨c23, h⟩ := AU h
          refine IC rfl c23 (UF rfl ?_)
          obtain ⟨v24, a24, b24, h⟩ := Aj h
          refine qI Dr F5 a24 (Ag b24) rfl ?_
          refine AY rfl rfl rfl rfl (Ag b24) rfl F5 rfl (A6 rfl) (AZ Bn v12.1 _ ((Pa .u8 v22 ((CJ .u8 1 p2.fo))))) ?_
          refine AB (by kernel_rfl) ?_
          exact Au _ h (sm [(2016, 2019), (2017, 2020), (2018, 2021)] _ _ rfl rfl)
         ·have h := An c21 h
          refine Aq ?_
          exact Au _ h (sm [(2016, 2019), (2017, 2020), (2018, 2021)] _ _ rfl rfl)
       ·refine Aa Ac rfl (qm rfl (AR rfl (qa rfl (Ae ?_))))
        exact Au _ h (sm [(2010, 2016), (2011, 2017), (2012, 2018)] _ _ rfl rfl)
      ·have h := An c14 h
       refine AS ?_
       exact Au _ h (sm [(2013, 2010), (2014, 2011), (2015, 2012)] _ _ rfl rfl)
     ·exact Au _ h (hs.trans (sm [(2001, 2013), (2002, 2014), (2003, 2015)] _ _ rfl rfl))
  ·have h := An c5 h
   refine Ab (Aa Ac rfl (BK rfl (qa rfl (Ae ?_))))
   refine Ap rfl (fun c25 => ?_) (fun c25 => ?_)
   ·have h := Ao c25 h
    refine Ab (Ab (Aa Ac rfl (qf BH rfl (ql Bo rfl (qm rfl ?_)))))
    obtain ⟨v26, a26, b26, h⟩ := Aj h
    refine qi AL Du a26 (Ag b26) rfl (qk Cm rfl (AX rfl (Ae ?_)))
    refine Ap rfl (fun c27 => ?_) (fun c27 => ?_)
    ·have h := Ao c27 h
     refine Ab (Aa Ac rfl (Bz Cw HB rfl (qs Az rfl (qa rfl (Ae ?_)))))
     obtain rfl := sj h
     refine Am ((AH 6 0 2022 1 _ rfl rfl rfl rfl).trans ((AH 6 1 2023 1 _ rfl rfl rfl rfl).trans ((AH 6 2 2024 1 _ rfl rfl rfl rfl).trans (sm [(1000, 2022), (1001, 2023), (1002, 2024)] [(6, oD (.ptr 6 0)), (7, bD false)] [(6, .box [.own 1000, .own 1001, .own 1002]), (1000, .vec 1 ((([] : List Int)).map Ak)), (1001, .vec 1 ((([] : List Int)).map Ak)), (1002, .vec 1 ((([] : List Int)).map Bn))] rfl rfl)))) (AA ?_)
     exact ⟨⟨[_, _], ⟨.cellN _ _ _ _ _ _ _ rfl rfl A7 Az rfl rfl (Jx rfl), ⟨.tmp _ _ rfl, tv⟩⟩, rfl⟩, ⟨rfl, rfl, rfl, tv⟩⟩
    ·have h := An c27 h
     refine Aq (Aa Ac rfl (qf CO rfl (ql Bo rfl (qm rfl (qf BH rfl (ql Bo rfl (qm rfl (qf BH rfl (ql Bo rfl (qm rfl ?_))))))))))
     obtain ⟨v28, a28, b28, h⟩ := Aj h
     refine qi AL Du a28 (Ag b28) rfl (qk Cm rfl ?_)
     obtain ⟨v29, a29, b29, h⟩ := Aj h
     refine qI AL Du a29 (Ag b29) rfl ?_
     refine AY rfl rfl rfl rfl (Ag b29) rfl Du rfl (A6 rfl) (AZ Ak ((([] : List Int)) ++ p1.fd) _ v28) ?_
     obtain ⟨v30, a30, b30, h⟩ := Aj h
     refine qI AL Du a30 (Ag b30) rfl ?_
     refine AY rfl rfl rfl rfl (Ag b30) rfl Du rfl (A6 rfl) (AZ Ak ((([] : List Int)) ++ p1.fa) _ ((-1))) ?_
     refine AB (by kernel_rfl) ?_
     exact Au _ h (sm [(2001, 18), (2002, 22), (2003, 26)] _ _ rfl rfl)
   ·have h := An c25 h
    refine Ab (Aa Ac rfl (BK rfl (qa rfl (Ae ?_))))
    refine Ap rfl (fun c31 => ?_) (fun c31 => ?_)
    ·have h := Ao c31 h
     refine Ab (Aa Ac rfl (qf Dc rfl (ql Ia rfl (qm rfl ?_))))
     obtain ⟨v32, a32, b32, h⟩ := Aj h
     refine qi EG EO a32 (Ag b32) rfl (qK Io EO rfl (qz LX rfl (qs EO rfl (Ae (Ab (Ab (Aa Ac rfl (qL Io EO rfl ?_))))))))
     obtain ⟨v33, a33, h⟩ := bind_some h
     refine AJ [] (CG N v32 v33 a33) QW rfl (BW rfl (Ae ?_))
     refine Ap rfl (fun c34 => ?_) (fun c34 => ?_)
     ·have h := Ao c34 h
      refine Ab (Aa Ac rfl (Bz Cw HB rfl (qs Az rfl (qa rfl (Ae ?_)))))
      obtain rfl := sj h
      refine Am ((AH 6 0 2025 1 _ rfl rfl rfl rfl).trans ((AH 6 1 2026 1 _ rfl rfl rfl rfl).trans ((AH 6 2 2027 1 _ rfl rfl rfl rfl).trans (sm [(1000, 2025), (1001, 2026), (1002, 2027)] [(6, oD (.ptr 6 0)), (7, bD false)] [(6, .box [.own 1000, .own 1001, .own 1002]), (1000, .vec 1 ((([] : List Int)).map Ak)), (1001, .vec 1 ((([] : List Int)).map Ak)), (1002, .vec 1 ((([] : List Int)).map Bn))] rfl rfl)))) (AA ?_)
      exact ⟨⟨[_, _], ⟨.cellN _ _ _ _ _ _ _ rfl rfl A7 Az rfl rfl (Jx rfl), ⟨.tmp _ _ rfl, tv⟩⟩, rfl⟩, ⟨rfl, rfl, rfl, tv⟩⟩
     ·have h := An c34 h
      refine Aq (Ab (Aa Ac rfl (qL A7 Az rfl (qf DI rfl (ql Cm rfl ?_)))))
      obtain ⟨v35, a35, h⟩ := bind_some h
      refine AJ [] (EE N p1 v32.fi v35 a35) VV rfl (qa rfl (Ae (Ab (Ab (Aa Ac rfl (qf CU rfl (ql Hb rfl (qm rfl ?_))))))))
      obtain ⟨v36, a36, b36, h⟩ := Aj h
      refine qi Dr F5 a36 (Ag b36) rfl (qk Ky rfl (qm rfl (BK rfl (Ae ?_))))
      refine Ap rfl (fun c37 => ?_) (fun c37 => ?_)
      ·have h := Ao c37 h
       refine Ab (Aa Ac rfl (Bz Cw HB rfl (qs Az rfl (qa rfl (Ae ?_)))))
       obtain rfl := sj h
       refine Am ((AH 6 0 2028 1 _ rfl rfl rfl rfl).trans ((AH 6 1 2029 1 _ rfl rfl rfl rfl).trans ((AH 6 2 2030 1 _ rfl rfl rfl rfl).trans (sm [(1000, 2028), (1001, 2029), (1002, 2030)] [(6, oD (.ptr 6 0)), (7, bD false)] [(6, .box [.own 1000, .own 1001, .own 1002]), (1000, .vec 1 ((([] : List Int)).map Ak)), (1001, .vec 1 ((([] : List Int)).map Ak)), (1002, .vec 1 ((([] : List Int)).map Bn))] rfl rfl)))) (AA ?_)
       exact ⟨⟨[_, _], ⟨.cellN _ _ _ _ _ _ _ rfl rfl A7 Az rfl rfl (Jx rfl), ⟨.tmp _ _ rfl, tv⟩⟩, rfl⟩, ⟨rfl, rfl, rfl, tv⟩⟩
      ·have h := An c37 h
       refine Aq (Ab (Ab (Aa Ac rfl (qa rfl (Ae ?_)))))
       refine AE (L := BZ N p0 p1 p2 v32 v35) h (fun v38 => mk [(3, oD (.ptr 3 0)), (4, oD (.ptr 4 0)), (6, oD (.ptr 6 0)), (8, oD (.ptr 8 0)), (9, iD p2.fj), (11, oD (.ptr 11 0)), (12, pD (.val (.int .u8 v35))), (13, iD v38)] [(3, .box [sC (p0.fb.map Ak), sC (p0.ff.map Ak), sC (p0.fh.map Ak), sC (p0.fc.map Ar)]), (4, .box [sC (p1.fd.map Ak), sC (p1.fa.map Ak), sC (p1.fe.map Bn)]), (6, .box [.pure (.nil0), .pure (.nil0), .pure (.nil0)]), (8, .box [.own 2031, .own 2032, .own 2033]), (11, .box [iC v32.fg, iC v32.fi, iC v32.fk, .pure (.val (.bool v32.fp)), sC (v32.fq.map (Fn eB)), sC (v32.fm.map (Fn eB))]), (2031, .vec 1 (((([] : List Int)) ++ p1.fd).map Ak)), (2032, .vec 1 (((([] : List Int)) ++ p1.fa).map Ak)), (2033, .vec 1 (((([] : List Int)) ++ p1.fe).map Bn))]) (fun v39 => mk [(6, oD (.ptr 6 0)), (8, oD (.ptr 8 0)), (9, iD p2.fj), (12, pD (.val (.int .u8 v35)))] [(6, .box [.pure (.nil0), .pure (.nil0), .pure (.nil0)]), (8, .box [.own 2034, .own 2035, .own 2036]), (2034, .vec 1 (((([] : List Int)) ++ p1.fd).map Ak)), (2035, .vec 1 (((([] : List Int)) ++ p1.fa).map Ak)), (2036, .vec 1 (((([] : List Int)) ++ p1.fe).map Bn))]) (fun _ _ => rfl) (sm [(2031, 18), (2032, 22), (2033, 26)] _ _ rfl rfl) (fun j38 n38 v38 h => ?_) (fun v39 s h hs => ?_)
       ·unfold BZ at h
        refine Ab (Ab (Aa Ac rfl (qm rfl (qf BO rfl (ql Bo rfl (qf DI rfl (ql Cm rfl ?_)))))))
        obtain ⟨v40, a40, b40, h⟩ := Aj h
        refine qi AL Du a40 (Ag b40) rfl (qk Cm rfl (AX rfl (Ae ?_)))
        refine Ap rfl (fun c41 => ?_) (fun c41 => ?_)
        ·have h := Ao c41 h
         refine Aq (Ab (AK ?_))
         refine AO h (fun v42 => mk [(3, oD (.ptr 3 0)), (4, oD (.ptr 4 0)), (6, oD (.ptr 6 0)), (8, oD (.ptr 8 0)), (9, iD p2.fj), (11, oD (.ptr 11 0)), (12, pD (.val (.int .u8 v35))), (13, iD v38), (14, bD v42)] [(3, .box [sC (p0.fb.map Ak), sC (p0.ff.map Ak), sC (p0.fh.map Ak), sC (p0.fc.map Ar)]), (4, .box [sC (p1.fd.map Ak), sC (p1.fa.map Ak), sC (p1.fe.map Bn)]), (6, .box [.pure (.nil0), .pure (.nil0), .pure (.nil0)]), (8, .box [.own 2037, .own 2038, .own 2039]), (11, .box [iC v32.fg, iC v32.fi, iC v32.fk, .pure (.val (.bool v32.fp)), sC (v32.fq.map (Fn eB)), sC (v32.fm.map (Fn eB))]), (2037, .vec 1 (((([] : List Int)) ++ p1.fd).map Ak)), (2038, .vec 1 (((([] : List Int)) ++ p1.fa).map Ak)), (2039, .vec 1 (((([] : List Int)) ++ p1.fe).map Bn))]) (fun j42 h => ?_) (fun v42 h => ?_)
         ·refine Aa Ac rfl (qf CU rfl (ql Hb rfl (qm rfl ?_)))
          obtain ⟨v43, a43, b43, h⟩ := Aj h
          refine qi Dr F5 a43 (Ag b43) rfl (qk Ky rfl (qm rfl ?_))
          obtain ⟨v44, a44, h⟩ := bind_some h
          refine AJ [] (Gz N v43 v38 v44 a44) TV rfl (qm rfl ?_)
          refine AF (t := 166) rfl (fun c45 => ?_) (fun c45 => ?_)
          ·have h := Ao c45 h
           refine qm rfl (qm rfl ?_)
           obtain ⟨v46, a46, h⟩ := bind_some h
           refine AJ [] (Gz N v35 v38 v46 a46) TV rfl (BW rfl (qp rfl (qa rfl (Ae ?_))))
           exact Au _ h (sm [(2037, 2031), (2038, 2032), (2039, 2033)] _ _ rfl rfl)
          ·have h := An c45 h
           refine qn rfl (qn rfl (qn rfl (qn rfl (qp rfl (qa rfl (Ae ?_))))))
           exact Au _ h (sm [(2037, 2031), (2038, 2032), (2039, 2033)] _ _ rfl rfl)
         ·refine AO h (fun v47 => mk [(3, oD (.ptr 3 0)), (4, oD (.ptr 4 0)), (6, oD (.ptr 6 0)), (8, oD (.ptr 8 0)), (9, iD p2.fj), (11, oD (.ptr 11 0)), (12, pD (.val (.int .u8 v35))), (13, iD v38), (193, bD v47)] [(3, .box [sC (p0.fb.map Ak), sC (p0.ff.map Ak), sC (p0.fh.map Ak), sC (p0.fc.map Ar)]), (4, .box [sC (p1.fd.map Ak), sC (p1.fa.map Ak), sC (p1.fe.map Bn)]), (6, .box [.pure (.nil0), .pure (.nil0), .pure (.nil0)]), (8, .box [.own 2040, .own 2041, .own 2042]), (11, .box [iC v32.fg, iC v32.fi, iC v32.fk, .pure (.val (.bool v32.fp)), sC (v32.fq.map (Fn eB)), sC (v32.fm.map (Fn eB))]), (2040, .vec 1 (((([] : List Int)) ++ p1.fd).map Ak)), (2041, .vec 1 (((([] : List Int)) ++ p1.fa).map Ak)), (2042, .vec 1 (((([] : List Int)) ++ p1.fe).map Bn))]) (fun j47 h => ?_) (fun v47 h => ?_)
          ·refine Aa Ac rfl (qm rfl (qm rfl ?_))
           refine AF (t := 173) rfl (fun c48 => ?_) (fun c48 => ?_)
           ·have h := Ao c48 h
            refine qf Gx rfl (ql Cm rfl (BK rfl (qp rfl (qm rfl ?_))))
            refine AF (t := 178) rfl (fun c49 => ?_) (fun c49 => ?_)
            ·have h := Ao c49 h
             refine qf Hr rfl (ql KL rfl (qm rfl ?_))
             obtain ⟨v50, a50, b50, h⟩ := Aj h
             refine qi G6 NO a50 (Ag b50) rfl (qk QM rfl (qf CO rfl (ql Bo rfl (qf DI rfl (ql Cm rfl ?_)))))
             obtain ⟨v51, a51, b51, h⟩ := Aj h
             refine qi AL Du a51 (Ag b51) rfl (qk Cm rfl ?_)
             obtain ⟨v52, a52, b52, h⟩ := Aj h
             refine qi Hp Sm a52 (Ag b52) rfl (qk TI rfl (BW rfl (qp rfl (AB (by kernel_rfl) ?_))))
             exact Au _ h (sm [(2040, 2037), (2041, 2038), (2042, 2039)] _ _ rfl rfl)
            ·have h := An c49 h
             refine qn rfl (qn rfl (qn rfl (qn rfl (qn rfl (qn rfl (qn rfl (qn rfl (qn rfl (qn rfl (qn rfl (qn rfl (qn rfl (qn rfl (qp rfl (AB (by kernel_rfl) ?_)))))))))))))))
             exact Au _ h (sm [(2040, 2037), (2041, 2038), (2042, 2039)] _ _ rfl rfl)
           ·have h := An c48 h
            refine qn rfl (qn rfl (qn rfl (qp rfl (qm rfl (qn rfl (qn rfl (qn rfl (qn rfl (qn rfl (qn rfl (qn rfl (qn rfl (qn rfl (qn rfl (qn rfl (qn rfl (qn rfl (qn rfl (qp rfl (AB (by kernel_rfl) ?_))))))))))))))))))))
            exact Au _ h (sm [(2040, 2037), (2041, 2038), (2042, 2039)] _ _ rfl rfl)
          ·refine Ap rfl (fun c53 => ?_) (fun c53 => ?_)
           ·have h := Ao c53 h
            refine Ab (Aa Ac rfl (Bz Cw HB rfl (qs Az rfl (qa rfl (Ae ?_)))))
            obtain rfl := sj h
            refine Am ((AH 6 0 2043 1 _ rfl rfl rfl rfl).trans ((AH 6 1 2044 1 _ rfl rfl rfl rfl).trans ((AH 6 2 2045 1 _ rfl rfl rfl rfl).trans (sm [(1000, 2043), (1001, 2044), (1002, 2045)] [(6, oD (.ptr 6 0)), (7, bD false)] [(6, .box [.own 1000, .own 1001, .own 1002]), (1000, .vec 1 ((([] : List Int)).map Ak)), (1001, .vec 1 ((([] : List Int)).map Ak)), (1002, .vec 1 ((([] : List Int)).map Bn))] rfl rfl)))) (AA ?_)
            exact ⟨⟨[_, _], ⟨.cellN _ _ _ _ _ _ _ rfl rfl A7 Az rfl rfl (Jx rfl), ⟨.tmp _ _ rfl, tv⟩⟩, rfl⟩, ⟨rfl, rfl, rfl, tv⟩⟩
           ·have h := An c53 h
            refine Aq (Aa Ac rfl (qm rfl (AR rfl (qa rfl (Ae ?_)))))
            exact Au _ h (sm [(2031, 2040), (2032, 2041), (2033, 2042)] _ _ rfl rfl)
        ·have h := An c41 h
         refine AS ?_
         exact Au _ h (sm [(2034, 2031), (2035, 2032), (2036, 2033)] _ _ rfl rfl)
       ·refine Am hs (Aa Ac rfl (qf CU rfl (ql Hb rfl (qm rfl (qm rfl ?_)))))
        obtain ⟨v54, a54, b54, h⟩ := Aj h
        refine qI Dr F5 a54 (Ag b54) rfl ?_
        refine AY rfl rfl rfl rfl (Ag b54) rfl F5 rfl (A6 rfl) (AZ Bn ((([] : List Int)) ++ p1.fe) _ v35) ?_
        refine Ae ?_
        exact Au _ h (sm [(2001, 2034), (2002, 2035), (2003, 2036)] _ _ rfl rfl)
    ·have h := An c31 h
     refine Ab (Ab (Aa Ac rfl (qf BH rfl (ql Bo rfl (qm rfl ?_)))))
     obtain ⟨v55, a55, b55, h⟩ := Aj h
     refine qi AL Du a55 (Ag b55) rfl (qk Cm rfl (AX rfl (Ae ?_)))
     refine Ap rfl (fun c56 => ?_) (fun c56 => ?_)
     ·have h := Ao c56 h
      refine Ab (Aa Ac rfl (Bz Cw HB rfl (qs Az rfl (qa rfl (Ae ?_)))))
      obtain rfl := sj h
      refine Am ((AH 6 0 2046 1 _ rfl rfl rfl rfl).trans ((AH 6 1 2047 1 _ rfl rfl rfl rfl).trans ((AH 6 2 2048 1 _ rfl rfl rfl rfl).trans (sm [(1000, 2046), (1001, 2047), (1002, 2048)] [(6, oD (.ptr 6 0)), (7, bD false)] [(6, .box [.own 1000, .own 1001, .own 1002]), (1000, .vec 1 ((([] : List Int)).map Ak)), (1001, .vec 1 ((([] : List Int)).map Ak)), (1002, .vec 1 ((([] : List Int)).map Bn))] rfl rfl)))) (AA ?_)
      exact ⟨⟨[_, _], ⟨.cellN _ _ _ _ _ _ _ rfl rfl A7 Az rfl rfl (Jx rfl), ⟨.tmp _ _ rfl, tv⟩⟩, rfl⟩, ⟨rfl, rfl, rfl, tv⟩⟩
     ·have h := An c56 h
      refine Aq (Aa Ac rfl (qf BH rfl (ql Bo rfl (qm rfl ?_))))
      obtain ⟨v57, a57, b57, h⟩ := Aj h
      refine qI AL Du a57 (Ag b57) rfl ?_
      refine AY rfl rfl rfl rfl (Ag b57) rfl Du rfl (A6 rfl) (AZ Ak ((([] : List Int)) ++ p1.fa) _ ((-1))) ?_
      refine Ae ?_
      exact Au _ h (sm [(2001, 18), (2002, 22), (2003, 26)] _ _ rfl rfl)
 ·refine Ab (Aa Ac rfl (qL A7 Az rfl (qs Az rfl (qa rfl (Ae ?_)))))
  obtain rfl := sj h
  refine Am (sm [(1000, 2001), (1001, 2002), (1002, 2003)] [(6, oD (.ptr 6 0)), (7, bD true)] [(6, .box [.own 1000, .own 1001, .own 1002]), (1000, .vec 1 (v4.1.map Ak)), (1001, .vec 1 (v4.2.1.map Ak)), (1002, .vec 1 (v4.2.2.map Bn))] rfl rfl) (AA ?_)
  exact ⟨⟨[_, _], ⟨.cellN _ _ _ _ _ _ _ rfl rfl A7 Az rfl rfl (Jx rfl), ⟨.tmp _ _ rfl, tv⟩⟩, rfl⟩, ⟨rfl, rfl, rfl, tv⟩⟩
theorem Ls (N : Nat) (p0 : Ah) (p1 : Af) (p2 : As) (r : Af × Int) (h : ER N p0 p1 p2 = some r) : AD Tryz.prog 113 [.e (.agg [sC (p0.fb.map Ak), sC (p0.ff.map Ak), sC (p0.fh.map Ak), sC (p0.fc.map Ar)]), .e (.agg [sC (p1.fd.map Ak), sC (p1.fa.map Ak), sC (p1.fe.map Bn)]), .e (.agg [iC p2.fg, iC p2.fj, iC p2.fo])] [(1, r.1.fd.map Ak), (1, r.1.fa.map Ak), (1, r.1.fe.map Bn)] (.tup [.agg [.own 0, .own 1, .own 2], .one (iC r.2)]) := by
 unfold ER at h
 refine Av (n := 73) (rs := [.cell 6 46, .tmp 7]) Tryz.func113 rfl rfl rfl (A6 rfl) (A6 rfl) rfl fun w0 S0 => ?_
 refine Ab (Aa Ac rfl (qb rfl (qb rfl (qb rfl (qz Cw rfl (qa rfl (Ae (Ab (Ab (Aa Ac rfl (qL DL Di rfl (qL A7 Az rfl ?_))))))))))))
 obtain ⟨v1, a1, h⟩ := bind_some h
 refine AJ [] (IK N p0 p1 v1 a1) az rfl (qa rfl (Ae (Ab (Aa Ac rfl (qm rfl (Cp rfl (Ae ?_)))))))
 refine Ap rfl (fun c2 => ?_) (fun c2 => ?_)
 ·have h := Ao c2 h
  refine Ab (Aa Ac rfl (Bz Cw HB rfl (qm rfl (qs Az rfl (qa rfl (Ae ?_))))))
  obtain rfl := sj h
  refine Am ((AH 6 0 2001 1 _ rfl rfl rfl rfl).trans ((AH 6 1 2002 1 _ rfl rfl rfl rfl).trans ((AH 6 2 2003 1 _ rfl rfl rfl rfl).trans (sm [(1000, 2001), (1001, 2002), (1002, 2003)] [(6, oD (.ptr 6 0)), (7, iD v1)] [(6, .box [.own 1000, .own 1001, .own 1002]), (1000, .vec 1 ((([] : List Int)).map Ak)), (1001, .vec 1 ((([] : List Int)).map Ak)), (1002, .vec 1 ((([] : List Int)).map Bn))] rfl rfl)))) (AA ?_)
  exact ⟨⟨[_, _], ⟨.cellN _ _ _ _ _ _ _ rfl rfl A7 Az rfl rfl (Jx rfl), ⟨.tmp _ _ rfl, tv⟩⟩, rfl⟩, ⟨rfl, rfl, rfl, tv⟩⟩
 ·have h := An c2 h
  refine Aq (Ab (Ab (Aa Ac rfl (qL I0 Fb rfl ?_))))
  obtain ⟨v3, a3, h⟩ := bind_some h
  refine AJ [] (Lx N p2 v3 a3) Z3 rfl (BW rfl (Ae ?_))
  refine Ap rfl (fun c4 => ?_) (fun c4 => ?_)
  ·have h := Ao c4 h
   refine Ab (Aa Ac rfl (Bz Cw HB rfl (qs Az rfl (qa rfl (Ae ?_)))))
   obtain rfl := sj h
   refine Am ((AH 6 0 2004 1 _ rfl rfl rfl rfl).trans ((AH 6 1 2005 1 _ rfl rfl rfl rfl).trans ((AH 6 2 2006 1 _ rfl rfl rfl rfl).trans (sm [(1000, 2004), (1001, 2005), (1002, 2006)] [(6, oD (.ptr 6 0)), (7, iD 1)] [(6, .box [.own 1000, .own 1001, .own 1002]), (1000, .vec 1 ((([] : List Int)).map Ak)), (1001, .vec 1 ((([] : List Int)).map Ak)), (1002, .vec 1 ((([] : List Int)).map Bn))] rfl rfl)))) (AA ?_)
   exact ⟨⟨[_, _], ⟨.cellN _ _ _ _ _ _ _ rfl rfl A7 Az rfl rfl (Jx rfl), ⟨.tmp _ _ rfl, tv⟩⟩, rfl⟩, ⟨rfl, rfl, rfl, tv⟩⟩
  ·have h := An c4 h
   refine Aq (Ab ?_)
   refine AO h (fun v5 => mk [(3, oD (.ptr 3 0)), (4, oD (.ptr 4 0)), (5, oD (.ptr 5 0)), (6, oD (.ptr 6 0)), (45, bD v5)] [(3, .box [sC (p0.fb.map Ak), sC (p0.ff.map Ak), sC (p0.fh.map Ak), sC (p0.fc.map Ar)]), (4, .box [sC (p1.fd.map Ak), sC (p1.fa.map Ak), sC (p1.fe.map Bn)]), (5, .box [iC p2.fg, iC p2.fj, iC p2.fo]), (6, .box [.pure (.nil0), .pure (.nil0), .pure (.nil0)])]) (fun j5 h => ?_) (fun v5 h => ?_)
   ·refine Aa Ac rfl (qf Ge rfl (ql Cm rfl (BK rfl (qm rfl ?_))))
    refine AF (t := 25) rfl (fun c6 => ?_) (fun c6 => ?_)
    ·have h := Ao c6 h
     refine qf Fq rfl (ql Cm rfl (qf Dc rfl (ql Ia rfl (A1 EG rfl (Cz rfl (qp rfl (qm rfl ?_)))))))
     refine AF (t := 33) rfl (fun c7 => ?_) (fun c7 => ?_)
     ·have h := Ao c7 h
      refine qn rfl (qn rfl (qn rfl (qn rfl (qu rfl (qu rfl (qu rfl (qu rfl (qu rfl (qu rfl (qn rfl (qp rfl (Ae ?_))))))))))))
      exact Au _ h (sm [] _ _ rfl rfl)
     ·have h := An c7 h
      refine qf Ge rfl (ql Cm rfl (Cp rfl (qm rfl ?_)))
      refine AF (t := 37) rfl (fun c8 => ?_) (fun c8 => ?_)
      ·have h := Ao c8 h
       refine qf Fq rfl (ql Cm rfl (qf BO rfl (ql Bo rfl (A1 AL rfl (Cz rfl (qp rfl (qp rfl (Ae ?_))))))))
       exact Au _ h (sm [] _ _ rfl rfl)
      ·have h := An c8 h
       refine qn rfl (qn rfl (qn rfl (qn rfl (qn rfl (qn rfl (qp rfl (qp rfl (Ae ?_))))))))
       exact Au _ h (sm [] _ _ rfl rfl)
    ·have h := An c6 h
     refine qn rfl (qn rfl (qn rfl (qn rfl (qn rfl (qn rfl (qp rfl (qm rfl (qf Ge rfl (ql Cm rfl (Cp rfl (qm rfl ?_)))))))))))
     refine AF (t := 37) rfl (fun c9 => ?_) (fun c9 => ?_)
     ·have h := Ao c9 h
      refine qf Fq rfl (ql Cm rfl (qf BO rfl (ql Bo rfl (A1 AL rfl (Cz rfl (qp rfl (qp rfl (Ae ?_))))))))
      exact Au _ h (sm [] _ _ rfl rfl)
     ·have h := An c9 h
      refine qn rfl (qn rfl (qn rfl (qn rfl (qn rfl (qn rfl (qp rfl (qp rfl (Ae ?_))))))))
      exact Au _ h (sm [] _ _ rfl rfl)
   ·refine Ap rfl (fun c10 => ?_) (fun c10 => ?_)
    ·have h := Ao c10 h
     refine Ab (Aa Ac rfl (Bz Cw HB rfl (qs Az rfl (qa rfl (Ae ?_)))))
     obtain rfl := sj h
     refine Am ((AH 6 0 2007 1 _ rfl rfl rfl rfl).trans ((AH 6 1 2008 1 _ rfl rfl rfl rfl).trans ((AH 6 2 2009 1 _ rfl rfl rfl rfl).trans (sm [(1000, 2007), (1001, 2008), (1002, 2009)] [(6, oD (.ptr 6 0)), (7, iD 4)] [(6, .box [.own 1000, .own 1001, .own 1002]), (1000, .vec 1 ((([] : List Int)).map Ak)), (1001, .vec 1 ((([] : List Int)).map Ak)), (1002, .vec 1 ((([] : List Int)).map Bn))] rfl rfl)))) (AA ?_)
     exact ⟨⟨[_, _], ⟨.cellN _ _ _ _ _ _ _ rfl rfl A7 Az rfl rfl (Jx rfl), ⟨.tmp _ _ rfl, tv⟩⟩, rfl⟩, ⟨rfl, rfl, rfl, tv⟩⟩
    ·have h := An c10 h
     refine Aq (Ab ?_)
     refine AO h (fun v11 => mk [(3, oD (.ptr 3 0)), (4, oD (.ptr 4 0)), (5, oD (.ptr 5 0)), (6, oD (.ptr 6 0)), (60, bD v11)] [(3, .box [sC (p0.fb.map Ak), sC (p0.ff.map Ak), sC (p0.fh.map Ak), sC (p0.fc.map Ar)]), (4, .box [sC (p1.fd.map Ak), sC (p1.fa.map Ak), sC (p1.fe.map Bn)]), (5, .box [iC p2.fg, iC p2.fj, iC p2.fo]), (6, .box [.pure (.nil0), .pure (.nil0), .pure (.nil0)])]) (fun j11 h => ?_) (fun v11 h => ?_)
     ·refine Aa Ac rfl (qf Ge rfl (ql Cm rfl (BK rfl (qm rfl ?_))))
      refine AF (t := 50) rfl (fun c12 => ?_) (fun c12 => ?_)
      ·have h := Ao c12 h
       refine qf Hs rfl (ql Cm rfl (qf BO rfl (ql Bo rfl (qf Fq rfl (ql Cm rfl ?_)))))
       obtain ⟨v13, a13, b13, h⟩ := Aj h
       refine qi AL Du a13 (Ag b13) rfl (qk Cm rfl (Cz rfl (qp rfl (AB (by kernel_rfl) ?_))))
       exact Au _ h (sm [] _ _ rfl rfl)
      ·have h := An c12 h
       refine qn rfl (qn rfl (qn rfl (qn rfl (qn rfl (qn rfl (qn rfl (qn rfl (qn rfl (qp rfl (AB (by kernel_rfl) ?_))))))))))
       exact Au _ h (sm [] _ _ rfl rfl)
     ·refine Ap rfl (fun c14 => ?_) (fun c14 => ?_)
      ·have h := Ao c14 h
       refine Ab (Aa Ac rfl (Bz Cw HB rfl (qs Az rfl (qa rfl (Ae ?_)))))
       obtain rfl := sj h
       refine Am ((AH 6 0 2010 1 _ rfl rfl rfl rfl).trans ((AH 6 1 2011 1 _ rfl rfl rfl rfl).trans ((AH 6 2 2012 1 _ rfl rfl rfl rfl).trans (sm [(1000, 2010), (1001, 2011), (1002, 2012)] [(6, oD (.ptr 6 0)), (7, iD 4)] [(6, .box [.own 1000, .own 1001, .own 1002]), (1000, .vec 1 ((([] : List Int)).map Ak)), (1001, .vec 1 ((([] : List Int)).map Ak)), (1002, .vec 1 ((([] : List Int)).map Bn))] rfl rfl)))) (AA ?_)
       exact ⟨⟨[_, _], ⟨.cellN _ _ _ _ _ _ _ rfl rfl A7 Az rfl rfl (Jx rfl), ⟨.tmp _ _ rfl, tv⟩⟩, rfl⟩, ⟨rfl, rfl, rfl, tv⟩⟩
      ·have h := An c14 h
       refine Aq (Ab (Aa Ac rfl (qL DL Di rfl (qL A7 Az rfl (qL I0 Fb rfl ?_)))))
       obtain ⟨v15, a15, h⟩ := bind_some h
       refine AJ [2013, 2014, 2015] (IQ N p0 p1 p2 v15 a15) ZO rfl (qm rfl (qx rfl (qx rfl (qz Cw rfl (qs Az rfl (qa rfl (Ae (Ab (Ab (Aa Ac rfl (qm rfl (BW rfl (Ae ?_)))))))))))))
       refine Ap rfl (fun c16 => ?_) (fun c16 => ?_)
       ·have h := Ao c16 h
        refine Ab (Aa Ac rfl (Bz Cw HB rfl (qs Az rfl (qa rfl (Ae ?_)))))
        obtain rfl := sj h
        refine Am ((AH 6 0 2016 1 _ rfl rfl rfl rfl).trans ((AH 6 1 2017 1 _ rfl rfl rfl rfl).trans ((AH 6 2 2018 1 _ rfl rfl rfl rfl).trans (sm [(1000, 2016), (1001, 2017), (1002, 2018)] [(6, oD (.ptr 6 0)), (7, iD 11)] [(6, .box [.own 1000, .own 1001, .own 1002]), (1000, .vec 1 ((([] : List Int)).map Ak)), (1001, .vec 1 ((([] : List Int)).map Ak)), (1002, .vec 1 ((([] : List Int)).map Bn))] rfl rfl)))) (AA ?_)
        exact ⟨⟨[_, _], ⟨.cellN _ _ _ _ _ _ _ rfl rfl A7 Az rfl rfl (Jx rfl), ⟨.tmp _ _ rfl, tv⟩⟩, rfl⟩, ⟨rfl, rfl, rfl, tv⟩⟩
       ·have h := An c16 h
        refine Aq (Ab (Aa Ac rfl (qL A7 Az rfl (qs Az rfl (qa rfl (Ae ?_))))))
        obtain rfl := sj h
        refine Am (sm [(1000, 2013), (1001, 2014), (1002, 2015)] [(6, oD (.ptr 6 0)), (7, iD 0)] [(6, .box [.own 1000, .own 1001, .own 1002]), (1000, .vec 1 (v15.1.fd.map Ak)), (1001, .vec 1 (v15.1.fa.map Ak)), (1002, .vec 1 (v15.1.fe.map Bn))] rfl rfl) (AA ?_)
        exact ⟨⟨[_, _], ⟨.cellN _ _ _ _ _ _ _ rfl rfl A7 Az rfl rfl (Jx rfl), ⟨.tmp _ _ rfl, tv⟩⟩, rfl⟩, ⟨rfl, rfl, rfl, tv⟩⟩
theorem Lr (N : Nat) (p0 : Ah) (p1 : Af) (r : (List As)) (h : EV N p0 p1 = some r) : AD Tryz.prog 72 [.e (.agg [sC (p0.fb.map Ak), sC (p0.ff.map Ak), sC (p0.fh.map Ak), sC (p0.fc.map Ar)]), .e (.agg [sC (p1.fd.map Ak), sC (p1.fa.map Ak), sC (p1.fe.map Bn)])] [(3, r.map A4)] (oD (.own 0)) := by
 unfold EV at h
 refine Av (n := 49) (rs := [.tmp 4]) Tryz.func72 rfl rfl rfl (A6 rfl) (A6 rfl) rfl fun w0 S0 => ?_
 refine Ab (Aa Ac rfl (qb rfl (qb rfl (qa rfl (Ae (Ab (Aa Ac rfl (qa rfl (Ae (Ab (Ab (Aa Ac rfl (qa rfl (Ae ?_))))))))))))))
 refine AE (L := BN N p0 p1) h (fun v1 => mk [(2, oD (.ptr 2 0)), (3, oD (.ptr 3 0)), (5, oD (.own 2001)), (6, iD v1.2)] [(2, .box [sC (p0.fb.map Ak), sC (p0.ff.map Ak), sC (p0.fh.map Ak), sC (p0.fc.map Ar)]), (3, .box [sC (p1.fd.map Ak), sC (p1.fa.map Ak), sC (p1.fe.map Bn)]), (2001, .vec 3 (v1.1.map A4))]) (fun v2 => mk [(5, oD (.own 2002))] [(2002, .vec 3 (v2.map A4))]) (fun _ _ => rfl) ((Bu 5 2011 3 rfl rfl rfl).trans (sm [(2001, 2011)] _ _ rfl rfl)) (fun j1 n1 v1 h => ?_) (fun v2 s h hs => ?_)
 ·unfold BN at h
  refine Ab (Ab (Aa Ac rfl (qm rfl (Ig rfl (Ae ?_)))))
  refine Ap rfl (fun c3 => ?_) (fun c3 => ?_)
  ·have h := Ao c3 h
   refine Aq (Ab (AK (Ab (Aa Ac rfl (qa rfl (Ae ?_))))))
   refine AE (L := Cq N p0 p1 v1) h (fun v4 => mk [(2, oD (.ptr 2 0)), (3, oD (.ptr 3 0)), (5, oD (.own 2003)), (6, iD v1.2), (7, iD v4.2)] [(2, .box [sC (p0.fb.map Ak), sC (p0.ff.map Ak), sC (p0.fh.map Ak), sC (p0.fc.map Ar)]), (3, .box [sC (p1.fd.map Ak), sC (p1.fa.map Ak), sC (p1.fe.map Bn)]), (2003, .vec 3 (v4.1.map A4))]) (fun v5 => mk [(2, oD (.ptr 2 0)), (3, oD (.ptr 3 0)), (5, oD (.own 2004)), (6, iD v1.2)] [(2, .box [sC (p0.fb.map Ak), sC (p0.ff.map Ak), sC (p0.fh.map Ak), sC (p0.fc.map Ar)]), (3, .box [sC (p1.fd.map Ak), sC (p1.fa.map Ak), sC (p1.fe.map Bn)]), (2004, .vec 3 (v5.map A4))]) (fun _ _ => rfl) (sm [(2003, 2001)] _ _ rfl rfl) (fun j4 n4 v4 h => ?_) (fun v5 s h hs => ?_)
   ·unfold Cq at h
    refine Ab (Ab (Aa Ac rfl (qm rfl (qf BO rfl (ql Bo rfl (A1 AL rfl (qf Dc rfl (ql Ia rfl (A1 EG rfl ?_)))))))))
    refine YZ (.p rfl) rfl rfl ?_
    refine AX rfl (Ae ?_)
    refine Ap rfl (fun c6 => ?_) (fun c6 => ?_)
    ·have h := Ao c6 h
     refine Aq (Ab (AK (Ab (Aa Ac rfl (qa rfl (Ae ?_))))))
     refine AE (L := Cr N p0 p1 v1 v4) h (fun v7 => mk [(2, oD (.ptr 2 0)), (3, oD (.ptr 3 0)), (5, oD (.own 2005)), (6, iD v1.2), (7, iD v4.2), (8, iD v7.2)] [(2, .box [sC (p0.fb.map Ak), sC (p0.ff.map Ak), sC (p0.fh.map Ak), sC (p0.fc.map Ar)]), (3, .box [sC (p1.fd.map Ak), sC (p1.fa.map Ak), sC (p1.fe.map Bn)]), (2005, .vec 3 (v7.1.map A4))]) (fun v8 => mk [(2, oD (.ptr 2 0)), (3, oD (.ptr 3 0)), (5, oD (.own 2006)), (6, iD v1.2), (7, iD v4.2)] [(2, .box [sC (p0.fb.map Ak), sC (p0.ff.map Ak), sC (p0.fh.map Ak), sC (p0.fc.map Ar)]), (3, .box [sC (p1.fd.map Ak), sC (p1.fa.map Ak), sC (p1.fe.map Bn)]), (2006, .vec 3 (v8.map A4))]) (fun _ _ => rfl) (sm [(2005, 2003)] _ _ rfl rfl) (fun j7 n7 v7 h => ?_) (fun v8 s h hs => ?_)
     ·unfold Cr at h
      refine Ab (Ab (Aa Ac rfl (qm rfl (AX rfl (Ae ?_)))))
      refine Ap rfl (fun c9 => ?_) (fun c9 => ?_)
      ·have h := Ao c9 h
       refine Aq ?_
       refine AO h (fun v10 => mk [(2, oD (.ptr 2 0)), (3, oD (.ptr 3 0)), (5, oD (.own 2007)), (6, iD v1.2), (7, iD v4.2), (8, iD v7.2)] [(2, .box [sC (p0.fb.map Ak), sC (p0.ff.map Ak), sC (p0.fh.map Ak), sC (p0.fc.map Ar)]), (3, .box [sC (p1.fd.map Ak), sC (p1.fa.map Ak), sC (p1.fe.map Bn)]), (2007, .vec 3 (v10.map A4))]) (fun j10 h => ?_) (fun v10 h => ?_)
       ·refine AK (Ab (Aa Ac rfl (qm rfl (qm rfl (qm rfl (Bz JU U3 rfl (qz JU rfl (qs Fb rfl (Ae (Ab (Aa Ac rfl (qL DL Di rfl (qL A7 Az rfl (qL I0 Fb rfl ?_))))))))))))))
        obtain ⟨v11, a11, h⟩ := bind_some h
        refine AJ [2008, 2009, 2010] (Ls N p0 p1 ((As.mk v1.2 v4.2 v7.2)) v11 a11) Z0 rfl (qm rfl (qx rfl (qx rfl (qz Cw rfl (qs Az rfl (qa rfl (Ae (Ab (Aa Ac rfl (qm rfl (BK rfl (Ae ?_))))))))))))
        refine Ap rfl (fun c12 => ?_) (fun c12 => ?_)
        ·have h := Ao c12 h
         refine Aa Ac rfl (qm rfl (qL I0 Fb rfl (DY Fm Fb JU rfl ?_)))
         obtain ⟨c13, h⟩ := AU h
         refine DO (f := A4) Fm Fm Fb Sf JU c13 rfl (qa rfl (Ae ?_))
         exact Au _ h (sm [(2007, 47)] _ _ rfl rfl)
        ·have h := An c12 h
         refine Aq ?_
         exact Au _ h (sm [(2007, 2005)] _ _ rfl rfl)
       ·refine Aa Ac rfl (qm rfl (AR rfl (qa rfl (Ae ?_))))
        exact Au _ h (sm [(2005, 2007)] _ _ rfl rfl)
      ·have h := An c9 h
       refine AS ?_
       exact Au _ h (sm [(2006, 2005)] _ _ rfl rfl)
     ·refine Am hs (Aa Ac rfl (qm rfl (AR rfl (qa rfl (Ae ?_)))))
      exact Au _ h (sm [(2003, 2006)] _ _ rfl rfl)
    ·have h := An c6 h
     refine AS ?_
     exact Au _ h (sm [(2004, 2003)] _ _ rfl rfl)
   ·refine Am hs (Aa Ac rfl (qm rfl (AR rfl (qa rfl (Ae ?_)))))
    exact Au _ h (sm [(2001, 2004)] _ _ rfl rfl)
  ·have h := An c3 h
   refine AS ?_
   exact Au _ h (sm [(2002, 2001)] _ _ rfl rfl)
 ·refine Am hs (Ab (Aa Ac rfl (qm rfl (qa rfl (Ae ?_)))))
  obtain rfl := sj h
  refine Am (sm [(1000, 2002)] [(4, oD (.own 1000))] [(1000, .vec 3 (v2.map A4))] rfl rfl) (AA ?_)
  exact ⟨⟨[_], ⟨.tmp _ _ rfl, tv⟩, rfl⟩, ⟨rfl, tv⟩⟩
theorem Hy (N : Nat) (p0 : List Int) (p1 : List Int) (r : Int) (h : DM N p0 p1 = some r) : AD Tryz.prog 108 [pD (.sl (p0.map Ak)), pD (.sl (p1.map Ak))] [] (iD r) := by
 unfold DM at h
 refine Av (n := 46) (rs := [.tmp 4]) Tryz.func108 rfl rfl rfl (A6 rfl) (A6 rfl) rfl fun w0 S0 => ?_
 refine Ab (Aa Ac rfl (qa rfl (Ae (Ab (Ab (Aa Ac rfl (qa rfl (Ae ?_))))))))
 refine AE (L := DG N p0 p1) h (fun v1 => mk [(0, pD (.sl (p0.map Ak))), (1, pD (.sl (p1.map Ak))), (5, iD v1)] []) (fun v2 => mk [(0, pD (.sl (p0.map Ak))), (1, pD (.sl (p1.map Ak)))] []) (fun _ _ => rfl) (sm [] _ _ rfl rfl) (fun j1 n1 v1 h => ?_) (fun v2 s h hs => ?_)
 ·unfold DG at h
  refine Ab ?_
  refine AO h (fun v3 => mk [(0, pD (.sl (p0.map Ak))), (1, pD (.sl (p1.map Ak))), (5, iD v1), (15, bD v3)] []) (fun j3 h => ?_) (fun v3 h => ?_)
  ·refine Aa Ac rfl (qm rfl (qm rfl (A1 AL rfl (AX rfl (qm rfl ?_)))))
   refine AF (t := 10) rfl (fun c4 => ?_) (fun c4 => ?_)
   ·have h := Ao c4 h
    refine qm rfl (qm rfl (A1 AL rfl (AX rfl (qp rfl (Ae ?_)))))
    exact Au _ h (sm [] _ _ rfl rfl)
   ·have h := An c4 h
    refine qn rfl (qn rfl (qn rfl (qn rfl (qp rfl (Ae ?_)))))
    exact Au _ h (sm [] _ _ rfl rfl)
  ·refine Ap rfl (fun c5 => ?_) (fun c5 => ?_)
   ·have h := Ao c5 h
    refine Aq (Ab (AK (Ab (Ab (Aa Ac rfl (qm rfl (qm rfl ?_)))))))
    obtain ⟨v6, a6, b6, h⟩ := Aj h
    refine qi AL Du a6 (Ag b6) rfl (qk Cm rfl (qm rfl (qm rfl ?_)))
    obtain ⟨v7, a7, b7, h⟩ := Aj h
    refine qi AL Du a7 (Ag b7) rfl (qk Cm rfl (AX rfl (AB (by kernel_rfl) ?_)))
    refine Ap rfl (fun c8 => ?_) (fun c8 => ?_)
    ·have h := Ao c8 h
     refine Ab (Aa Ac rfl (qa rfl (Ae ?_)))
     obtain rfl := sj h
     refine Am (sm [] [(4, iD ((-1)))] [] rfl rfl) (AA ?_)
     exact ⟨⟨[_], ⟨.tmp _ _ rfl, tv⟩, rfl⟩, tv⟩
    ·have h := An c8 h
     refine Aq (Ab (Aa Ac rfl (qm rfl (qm rfl ?_))))
     obtain ⟨v9, a9, b9, h⟩ := Aj h
     refine qi AL Du a9 (Ag b9) rfl (qk Cm rfl (qm rfl (qm rfl ?_)))
     obtain ⟨v10, a10, b10, h⟩ := Aj h
     refine qi AL Du a10 (Ag b10) rfl (qk Cm rfl (E2 rfl (AB (by kernel_rfl) ?_)))
     refine Ap rfl (fun c11 => ?_) (fun c11 => ?_)
     ·have h := Ao c11 h
      refine Ab (Aa Ac rfl (qa rfl (Ae ?_)))
      obtain rfl := sj h
      refine Am (sm [] [(4, iD 1)] [] rfl rfl) (AA ?_)
      exact ⟨⟨[_], ⟨.tmp _ _ rfl, tv⟩, rfl⟩, tv⟩
     ·have h := An c11 h
      refine Aq (Aa Ac rfl (qm rfl (AR rfl (qa rfl (Ae ?_)))))
      exact Au _ h (sm [] _ _ rfl rfl)
   ·have h := An c5 h
    refine AS ?_
    exact Au _ h (sm [] _ _ rfl rfl)
 ·refine Am hs (Ab (Ab (Aa Ac rfl (qm rfl (A1 AL rfl (qm rfl (A1 AL rfl (AX rfl (Ae ?_)))))))))
  refine Ap rfl (fun c12 => ?_) (fun c12 => ?_)
  ·have h := Ao c12 h
   refine Ab (Aa Ac rfl (qa rfl (Ae ?_)))
   obtain rfl := sj h
   refine Am (sm [] [(4, iD ((-1)))] [] rfl rfl) (AA ?_)
   exact ⟨⟨[_], ⟨.tmp _ _ rfl, tv⟩, rfl⟩, tv⟩
  ·have h := An c12 h
   refine Aq (Ab (Ab (Aa Ac rfl (qm rfl (A1 AL rfl (qm rfl (A1 AL rfl (E2 rfl (Ae ?_)))))))))
   refine Ap rfl (fun c13 => ?_) (fun c13 => ?_)
   ·have h := Ao c13 h
    refine Ab (Aa Ac rfl (qa rfl (Ae ?_)))
    obtain rfl := sj h
    refine Am (sm [] [(4, iD 1)] [] rfl rfl) (AA ?_)
    exact ⟨⟨[_], ⟨.tmp _ _ rfl, tv⟩, rfl⟩, tv⟩
   ·have h := An c13 h
    refine Aq (Ab (Aa Ac rfl (qa rfl (Ae ?_))))
    obtain rfl := sj h
    refine Am (sm [] [(4, iD 0)] [] rfl rfl) (AA ?_)
    exact ⟨⟨[_], ⟨.tmp _ _ rfl, tv⟩, rfl⟩, tv⟩
theorem Ie (N : Nat) (p0 : List Int) (r : (List Int)) (h : DJ N p0 = some r) : AD Tryz.prog 109 [pD (.sl (p0.map Bn))] [(1, r.map Ak)] (oD (.own 0)) := by
 unfold DJ at h
 refine Av (n := 20) (rs := [.tmp 2]) Tryz.func109 rfl rfl rfl (A6 rfl) (A6 rfl) rfl fun w0 S0 => ?_
 refine Ab (Aa Ac rfl (qa rfl (Ae (Ab (Aa Ac rfl (qa rfl (Ae (Ab (Ab (Aa Ac rfl (qa rfl (Ae ?_))))))))))))
 refine AE (L := C6 N p0) h (fun v1 => mk [(0, pD (.sl (p0.map Bn))), (3, oD (.own 2001)), (4, iD v1.2)] [(2001, .vec 1 (v1.1.map Ak))]) (fun v2 => mk [(3, oD (.own 2002))] [(2002, .vec 1 (v2.map Ak))]) (fun _ _ => rfl) ((Bu 3 2003 1 rfl rfl rfl).trans (sm [(2001, 2003)] _ _ rfl rfl)) (fun j1 n1 v1 h => ?_) (fun v2 s h hs => ?_)
 ·unfold C6 at h
  refine Ab (Ab (Aa Ac rfl (qm rfl (qm rfl (A1 Dr rfl (AX rfl (Ae ?_)))))))
  refine Ap rfl (fun c3 => ?_) (fun c3 => ?_)
  ·have h := Ao c3 h
   refine Aq (Ab (AK (Aa Ac rfl (qm rfl (qm rfl (qm rfl ?_))))))
   obtain ⟨v4, a4, b4, h⟩ := Aj h
   refine qi Dr F5 a4 (Ag b4) rfl (qk Ky rfl (GY bT Ud rfl (DY AL Du KI rfl ?_)))
   obtain ⟨c5, h⟩ := AU h
   refine DO (f := Ak) AL AL Du M4 KI c5 rfl (qa rfl (Ae (Aa Ac rfl (qm rfl (AR rfl (qa rfl (Ae ?_)))))))
   exact Au _ h (sm [(2001, 18)] _ _ rfl rfl)
  ·have h := An c3 h
   refine AS ?_
   exact Au _ h (sm [(2002, 2001)] _ _ rfl rfl)
 ·refine Am hs (Ab (Aa Ac rfl (qm rfl (qa rfl (Ae ?_)))))
  obtain rfl := sj h
  refine Am (sm [(1000, 2002)] [(2, oD (.own 1000))] [(1000, .vec 1 (v2.map Ak))] rfl rfl) (AA ?_)
  exact ⟨⟨[_], ⟨.tmp _ _ rfl, tv⟩, rfl⟩, ⟨rfl, tv⟩⟩
theorem Gt (N : Nat) (p0 : Af) (p1 : Af) (r : Int) (h : Ca N p0 p1 = some r) : AD Tryz.prog 68 [.e (.agg [sC (p0.fd.map Ak), sC (p0.fa.map Ak), sC (p0.fe.map Bn)]), .e (.agg [sC (p1.fd.map Ak), sC (p1.fa.map Ak), sC (p1.fe.map Bn)])] [] (iD r) := by
 unfold Ca at h
 refine Av (n := 30) (rs := [.tmp 4]) Tryz.func68 rfl rfl rfl (A6 rfl) (A6 rfl) rfl fun w0 S0 => ?_
 refine Ab (Aa Ac rfl (qb rfl (qb rfl (qa rfl (Ae (Ab (Ab (Aa Ac rfl (qf CO rfl (ql Bo rfl (qf CO rfl (ql Bo rfl ?_))))))))))))
 obtain ⟨v1, a1, h⟩ := bind_some h
 refine AJ [] (Hy N p0.fd p1.fd v1 a1) UG rfl (qa rfl (Ae (Ab (Aa Ac rfl (qm rfl (Cp rfl (Ae ?_)))))))
 refine Ap rfl (fun c2 => ?_) (fun c2 => ?_)
 ·have h := Ao c2 h
  refine Ab (Aa Ac rfl (qm rfl (qa rfl (Ae ?_))))
  obtain rfl := sj h
  refine Am (sm [] [(4, iD v1)] [] rfl rfl) (AA ?_)
  exact ⟨⟨[_], ⟨.tmp _ _ rfl, tv⟩, rfl⟩, tv⟩
 ·have h := An c2 h
  refine Aq (Ab (Ab (Aa Ac rfl (qf BH rfl (ql Bo rfl (qf BH rfl (ql Bo rfl ?_)))))))
  obtain ⟨v3, a3, h⟩ := bind_some h
  refine AJ [] (Hy N p0.fa p1.fa v3 a3) UG rfl (qa rfl (Ae (Ab (Aa Ac rfl (qm rfl (Cp rfl (Ae ?_)))))))
  refine Ap rfl (fun c4 => ?_) (fun c4 => ?_)
  ·have h := Ao c4 h
   refine Ab (Aa Ac rfl (qm rfl (qa rfl (Ae ?_))))
   obtain rfl := sj h
   refine Am (sm [] [(4, iD v3)] [] rfl rfl) (AA ?_)
   exact ⟨⟨[_], ⟨.tmp _ _ rfl, tv⟩, rfl⟩, tv⟩
  ·have h := An c4 h
   refine Aq (Ab (Aa Ac rfl (qf CU rfl (ql Hb rfl ?_))))
   obtain ⟨v5, a5, h⟩ := bind_some h
   refine AJ [2001] (Ie N p0.fe v5 a5) X7 rfl (qf CU rfl (ql Hb rfl ?_))
   obtain ⟨v6, a6, h⟩ := bind_some h
   refine AJ [2002] (Ie N p1.fe v6 a6) X7 rfl ?_
   obtain ⟨v7, a7, h⟩ := bind_some h
   refine Dj [] [2001, 2002] (Hy N v5 v6 v7 a7) UG B4 rfl (qa rfl (AB (by kernel_rfl) ?_))
   obtain rfl := sj h
   refine Am (sm [] [(4, iD v7)] [] rfl rfl) (AA ?_)
   exact ⟨⟨[_], ⟨.tmp _ _ rfl, tv⟩, rfl⟩, tv⟩
theorem Lt (N : Nat) (p0 : List Af) (p1 : Af) (r : Int × Bool) (h : ET N p0 p1 = some r) : AD Tryz.prog 74 [pD (.sl (p0.map Ai)), .e (.agg [sC (p1.fd.map Ak), sC (p1.fa.map Ak), sC (p1.fe.map Bn)])] [] (.tup [.one (iC r.1), .one (.pure (.val (.bool r.2)))]) := by
 unfold ET at h
 refine Av (n := 36) (rs := [.tmp 4, .tmp 5]) Tryz.func74 rfl rfl rfl (A6 rfl) (A6 rfl) rfl fun w0 S0 => ?_
 refine Ab (Aa Ac rfl (qb rfl (qa rfl (qa rfl (Ae (Ab (Aa Ac rfl (qa rfl (Ae (Ab ?_))))))))))
 refine AE (L := Dq N p0 p1) h (fun v1 => mk [(0, pD (.sl (p0.map Ai))), (3, oD (.ptr 3 0)), (6, iD v1)] [(3, .box [sC (p1.fd.map Ak), sC (p1.fa.map Ak), sC (p1.fe.map Bn)])]) (fun v2 => mk [(0, pD (.sl (p0.map Ai))), (3, oD (.ptr 3 0)), (6, iD v2)] [(3, .box [sC (p1.fd.map Ak), sC (p1.fa.map Ak), sC (p1.fe.map Bn)])]) (fun _ _ => rfl) (sm [] _ _ rfl rfl) (fun j1 n1 v1 h => ?_) (fun v2 s h hs => ?_)
 ·unfold Dq at h
  refine Ab ?_
  refine AO h (fun v3 => mk [(0, pD (.sl (p0.map Ai))), (3, oD (.ptr 3 0)), (6, iD v1), (19, bD v3)] [(3, .box [sC (p1.fd.map Ak), sC (p1.fa.map Ak), sC (p1.fe.map Bn)])]) (fun j3 h => ?_) (fun v3 h => ?_)
  ·refine Aa Ac rfl (qm rfl (qm rfl (A1 AV rfl (AX rfl (qm rfl ?_)))))
   refine AF (t := 11) rfl (fun c4 => ?_) (fun c4 => ?_)
   ·have h := Ao c4 h
    refine qm rfl (qm rfl ?_)
    obtain ⟨v5, a5, b5, h⟩ := Aj h
    refine qi AV Az a5 (Ag b5) rfl (qK A7 Az rfl (qL A7 Az rfl ?_))
    obtain ⟨v6, a6, h⟩ := bind_some h
    refine AJ [] (Gt N v5 p1 v6 a6) YG rfl (AX rfl (qp rfl (AB (by kernel_rfl) ?_)))
    exact Au _ h (sm [] _ _ rfl rfl)
   ·have h := An c4 h
    refine qn rfl (qn rfl (qn rfl (qn rfl (qn rfl (qn rfl (qn rfl (qp rfl (AB (by kernel_rfl) ?_))))))))
    exact Au _ h (sm [] _ _ rfl rfl)
  ·refine Ap rfl (fun c7 => ?_) (fun c7 => ?_)
   ·have h := Ao c7 h
    refine Aq (AK (Aa Ac rfl (qm rfl (AR rfl (qa rfl (Ae ?_))))))
    exact Au _ h (sm [] _ _ rfl rfl)
   ·have h := An c7 h
    refine AS ?_
    exact Au _ h (sm [] _ _ rfl rfl)
 ·refine Am hs ?_
  refine AO h (fun v8 => mk [(4, iD v2), (5, bD v8)] []) (fun j8 h => ?_) (fun v8 h => ?_)
  ·refine Aa Ac rfl (qm rfl (qm rfl (qm rfl (A1 AV rfl (AX rfl (qm rfl ?_))))))
   refine AF (t := 27) rfl (fun c9 => ?_) (fun c9 => ?_)
   ·have h := Ao c9 h
    refine qm rfl (qm rfl ?_)
    obtain ⟨v10, a10, b10, h⟩ := Aj h
    refine qi AV Az a10 (Ag b10) rfl (qK A7 Az rfl (qL A7 Az rfl ?_))
    obtain ⟨v11, a11, h⟩ := bind_some h
    refine AJ [] (Gt N v10 p1 v11 a11) YG rfl (BK rfl (qp rfl (qa rfl (qa rfl (AB (by kernel_rfl) ?_)))))
    exact Au _ h (sm [] _ _ rfl rfl)
   ·have h := An c9 h
    refine qn rfl (qn rfl (qn rfl (qn rfl (qn rfl (qn rfl (qn rfl (qp rfl (qa rfl (qa rfl (AB (by kernel_rfl) ?_))))))))))
    exact Au _ h (sm [] _ _ rfl rfl)
  ·obtain rfl := sj h
   refine Am (sm [] [(4, iD v2), (5, bD v8)] [] rfl rfl) (AA ?_)
   exact ⟨⟨[_, _], ⟨.tmp _ _ rfl, ⟨.tmp _ _ rfl, tv⟩⟩, rfl⟩, tv⟩
theorem K0 (N : Nat) (p0 : Ah) (p1 : Int) (r : (List Af) × Bool) (h : EF N p0 p1 = some r) : AD Tryz.prog 29 [.e (.agg [sC (p0.fb.map Ak), sC (p0.ff.map Ak), sC (p0.fh.map Ak), sC (p0.fc.map Ar)]), iD p1] [(3, r.1.map Ai)] (.tup [.one (.own 0), .one (.pure (.val (.bool r.2)))]) := by
 unfold EF at h
 refine Av (n := 95) (rs := [.tmp 4, .tmp 5]) Tryz.func29 rfl rfl rfl (A6 rfl) (A6 rfl) rfl fun w0 S0 => ?_
 refine Ab (Aa Ac rfl (qb rfl (qa rfl (qa rfl (Ae (Ab (Aa Ac rfl (qL DL Di rfl ?_))))))))
 obtain ⟨v1, a1, h⟩ := bind_some h
 refine AJ [2001, 2002, 2003] (Lv N p0 v1 a1) bq rfl (qm rfl (qx rfl (qx rfl (qz Cw rfl (qs Az rfl (qa rfl (Ae (Ab (Ab (Aa Ac rfl (qL DL Di rfl (qL A7 Az rfl ?_))))))))))))
 obtain ⟨v2, a2, h⟩ := bind_some h
 refine Dj [] [2001, 2002, 2003] (H6 N p0 v1.1 v2 a2) Zb B4 rfl (BW rfl (Ae ?_))
 refine Ap rfl (fun c3 => ?_) (fun c3 => ?_)
 ·have h := Ao c3 h
  refine Ab (Aa Ac rfl (qa rfl (qa rfl (Ae ?_))))
  obtain rfl := sj h
  refine Am ((Bu 4 2004 3 rfl rfl rfl).trans (sm [(1000, 2004)] [(4, oD (.own 1000)), (5, bD true)] [(1000, .vec 3 ((([] : List Af)).map Ai))] rfl rfl)) (AA ?_)
  exact ⟨⟨[_, _], ⟨.tmp _ _ rfl, ⟨.tmp _ _ rfl, tv⟩⟩, rfl⟩, ⟨rfl, tv⟩⟩
 ·have h := An c3 h
  refine Aq (Ab (Aa Ac rfl (qL A7 Az rfl (DT (Bk 2001 _ _ rfl rfl) (DT (Bk 2002 _ _ rfl rfl) (DT (Bk 2003 _ _ rfl rfl) (DY AV Az Cw rfl (qa rfl (Ae (Ab (Aa Ac rfl (qL A7 Az rfl (DY AV Az Cw rfl (qa rfl (Ae (Ab (Ab (Aa Ac rfl (qa rfl (Ae ?_))))))))))))))))))))
  refine AE (L := CK N p0 p1) h (fun v4 => mk [(1, iD p1), (2, oD (.ptr 2 0)), (8, oD (.own 2005)), (9, oD (.own 2006)), (10, iD v4.2.2)] [(2, .box [sC (p0.fb.map Ak), sC (p0.ff.map Ak), sC (p0.fh.map Ak), sC (p0.fc.map Ar)]), (2005, .vec 3 (v4.1.map Ai)), (2006, .vec 3 (v4.2.1.map Ai))]) (fun v5 => mk [(9, oD (.own 2007))] [(2007, .vec 3 (v5.map Ai))]) (fun _ _ => rfl) (sm [(2005, 27), (2006, 29)] _ _ rfl rfl) (fun j4 n4 v4 h => ?_) (fun v5 s h hs => ?_)
  ·unfold CK at h
   refine Ab (Ab (Aa Ac rfl (qm rfl (qm rfl (EN AV rfl (AX rfl (Ae ?_)))))))
   refine Ap rfl (fun c6 => ?_) (fun c6 => ?_)
   ·have h := Ao c6 h
    refine Aq (Ab (AK (Ab (Aa Ac rfl (qL DL Di rfl (qm rfl (qm rfl ?_)))))))
    obtain ⟨v7, a7, b7, h⟩ := Aj h
    refine qI AV Az a7 (Ag b7) rfl (qJ A7 Az (Ag b7) rfl ?_)
    obtain ⟨v8, a8, h⟩ := bind_some h
    refine AJ [2008] (Lr N p0 v7 v8 a8) bd rfl (qa rfl (AB (by kernel_rfl) (Ab (Aa Ac rfl (qa rfl (Ae ?_))))))
    refine AE (L := Cj N p0 p1 v4 v8) h (fun v9 => mk [(1, iD p1), (2, oD (.ptr 2 0)), (8, oD (.own 2009)), (9, oD (.own 2010)), (10, iD v4.2.2), (11, oD (.own 2011)), (12, iD v9.2.2)] [(2, .box [sC (p0.fb.map Ak), sC (p0.ff.map Ak), sC (p0.fh.map Ak), sC (p0.fc.map Ar)]), (2009, .vec 3 (v9.1.map Ai)), (2010, .vec 3 (v9.2.1.map Ai)), (2011, .vec 3 (v8.map A4))]) (fun v10 => mk [(1, iD p1), (2, oD (.ptr 2 0)), (8, oD (.own 2012)), (9, oD (.own 2013)), (10, iD v4.2.2)] [(2, .box [sC (p0.fb.map Ak), sC (p0.ff.map Ak), sC (p0.fh.map Ak), sC (p0.fc.map Ar)]), (2012, .vec 3 (v10.1.map Ai)), (2013, .vec 3 (v10.2.map Ai))]) (fun _ _ => rfl) (sm [(2009, 2005), (2010, 2006), (2011, 2008)] _ _ rfl rfl) (fun j9 n9 v9 h => ?_) (fun v10 s h hs => ?_)
    ·unfold Cj at h
     refine Ab (Ab (Aa Ac rfl (qm rfl (qm rfl (EN Fm rfl (AX rfl (Ae ?_)))))))
     refine Ap rfl (fun c11 => ?_) (fun c11 => ?_)
     ·have h := Ao c11 h
      refine Aq ?_
      refine AO h (fun v12 => mk [(1, iD p1), (2, oD (.ptr 2 0)), (8, oD (.own 2014)), (9, oD (.own 2015)), (10, iD v4.2.2), (11, oD (.own 2016)), (12, iD v9.2.2)] [(2, .box [sC (p0.fb.map Ak), sC (p0.ff.map Ak), sC (p0.fh.map Ak), sC (p0.fc.map Ar)]), (2014, .vec 3 (v12.1.map Ai)), (2015, .vec 3 (v12.2.map Ai)), (2016, .vec 3 (v8.map A4))]) (fun j12 h => ?_) (fun v12 h => ?_)
      ·refine AK (Ab (Aa Ac rfl (qL DL Di rfl (qm rfl (qm rfl ?_)))))
       obtain ⟨v13, a13, b13, h⟩ := Aj h
       refine qI AV Az a13 (Ag b13) rfl (qJ A7 Az (Ag b13) rfl (qm rfl (qm rfl ?_)))
       obtain ⟨v14, a14, b14, h⟩ := Aj h
       refine qI Fm Fb a14 (Ag b14) rfl (qJ I0 Fb (Ag b14) rfl ?_)
       obtain ⟨v15, a15, h⟩ := bind_some h
       refine AJ [2017, 2018, 2019] (IQ N p0 v13 v14 v15 a15) ZO rfl (qm rfl (qx rfl (qx rfl (qz Cw rfl (qs Az rfl (qa rfl (AB (by kernel_rfl) (Ab (Aa Ac rfl (qm rfl (qL A7 Az rfl ?_)))))))))))
       obtain ⟨v16, a16, h⟩ := bind_some h
       refine Dj [] [2010, 2017, 2018, 2019] (Lt N v9.2.1 v15.1 v16 a16) bJ B4 rfl (qm rfl (qx rfl (qx rfl (qa rfl (qa rfl (Ae (Ab ?_)))))))
       refine AO h (fun v17 => mk [(1, iD p1), (2, oD (.ptr 2 0)), (8, oD (.own 2023)), (9, oD (.own 2024)), (10, iD v4.2.2), (11, oD (.own 2025)), (12, iD v9.2.2), (13, oD (.ptr 13 0)), (15, iD v16.1), (73, bD v17)] [(2, .box [sC (p0.fb.map Ak), sC (p0.ff.map Ak), sC (p0.fh.map Ak), sC (p0.fc.map Ar)]), (13, .box [.own 2020, .own 2021, .own 2022]), (2020, .vec 1 (v15.1.fd.map Ak)), (2021, .vec 1 (v15.1.fa.map Ak)), (2022, .vec 1 (v15.1.fe.map Bn)), (2023, .vec 3 (v9.1.map Ai)), (2024, .vec 3 (v9.2.1.map Ai)), (2025, .vec 3 (v8.map A4))]) (fun j17 h => ?_) (fun v17 h => ?_)
       ·refine Aa Ac rfl (qm rfl (qm rfl ?_))
        refine AF (t := 68) rfl (fun c18 => ?_) (fun c18 => ?_)
        ·have h := Ao c18 h
         refine qn rfl (qn rfl (qn rfl (qn rfl (qp rfl (Ae ?_)))))
         exact Au _ h (sm [(2020, 2017), (2021, 2018), (2022, 2019), (2023, 2009), (2024, 2010), (2025, 2011)] _ _ rfl rfl)
        ·have h := An c18 h
         refine qL DL Di rfl (qL A7 Az rfl ?_)
         obtain ⟨v19, a19, h⟩ := bind_some h
         refine Dj [] [2017, 2018, 2019] (H6 N p0 v15.1 v19 a19) Zb B4 rfl (BW rfl (qp rfl (Ae ?_)))
         exact Au _ h (sm [(2020, 2017), (2021, 2018), (2022, 2019), (2023, 2009), (2024, 2010), (2025, 2011)] _ _ rfl rfl)
       ·refine Ap rfl (fun c20 => ?_) (fun c20 => ?_)
        ·have h := Ao c20 h
         refine AS ?_
         exact Au _ h (sm [(2014, 2023), (2015, 2024), (2016, 2025)] _ _ rfl rfl)
        ·have h := An c20 h
         refine Aq (Ab (Aa Ac rfl (qm rfl (qL A7 Az rfl (DT (Bk 2020 _ _ rfl rfl) (DT (Bk 2021 _ _ rfl rfl) (DT (Bk 2022 _ _ rfl rfl) (DY AV Az Cw rfl ?_))))))))
         obtain ⟨c21, h⟩ := AU h
         refine DO (f := Ai) AV AV Az Ng Cw c21 rfl (qa rfl (Ae (Ab (Am (Bk 2024 _ _ rfl rfl) (Aa Ac rfl (DY AV Az Cw rfl (qm rfl (qm rfl ?_))))))))
         obtain ⟨c22, h⟩ := AU h
         refine TH (.p rfl) rfl AV Az (Mj (f := Ai) (n := 3) (fun _ => rfl) _) (.none _) (.some _ _ _ _ c22.1) tv ⟨rfl, tv⟩ (by have := c22.2.1; (try simp only [List.length_map]); omega) (by have := c22.2.2; (try simp only [List.length_map]); omega) (R6 Ai v9.2.1 _ _ ((v16.1).toNat - 0) rfl) ?_
         obtain ⟨c23, h⟩ := AU h
         refine JN (f := Ai) AV AV Az Ng Cw (fun _ => rfl) c23 rfl (qL A7 Az rfl (DY AV Az Cw rfl ?_))
         obtain ⟨c24, h⟩ := AU h
         refine DO (f := Ai) AV AV Az Ng Cw c24 rfl (qm rfl (qm rfl ?_))
         obtain ⟨c25, h⟩ := AU h
         refine TH (.p rfl) rfl AV Az (Mj (f := Ai) (n := 3) (fun _ => rfl) _) (.some _ _ _ _ c25.1) (.none _) ⟨rfl, tv⟩ tv (by have := c25.2.1; (try simp only [List.length_map]); omega) (by have := c25.2.2; (try simp only [List.length_map]); omega) (R6 Ai v9.2.1 _ _ (v9.2.1.length - (v16.1).toNat) (by rw [List.length_map])) ?_
         obtain ⟨c26, h⟩ := AU h
         refine JN (f := Ai) AV AV Az Ng Cw (fun _ => rfl) c26 rfl (qa rfl (AB (by kernel_rfl) (Ab (Aa Ac rfl (qm rfl (EN AV rfl (qm rfl (E2 rfl (Ae ?_)))))))))
         refine Ap rfl (fun c27 => ?_) (fun c27 => ?_)
         ·have h := Ao c27 h
          refine Ab (Aa Ac rfl (qa rfl (qa rfl (Ae ?_))))
          obtain rfl := sj h
          refine Am ((Bu 4 2026 3 rfl rfl rfl).trans (sm [(1000, 2026)] [(4, oD (.own 1000)), (5, bD false)] [(1000, .vec 3 ((([] : List Af)).map Ai))] rfl rfl)) (AA ?_)
          exact ⟨⟨[_, _], ⟨.tmp _ _ rfl, ⟨.tmp _ _ rfl, tv⟩⟩, rfl⟩, ⟨rfl, tv⟩⟩
         ·have h := An c27 h
          refine Aq ?_
          exact Au _ h (sm [(2014, 77), (2015, 89), (2016, 2025)] _ _ rfl rfl)
      ·refine Aa Ac rfl (qm rfl (AR rfl (qa rfl (Ae ?_))))
       exact Au _ h (sm [(2009, 2014), (2010, 2015), (2011, 2016)] _ _ rfl rfl)
     ·have h := An c11 h
      refine AS ?_
      exact Au _ h (sm [(2012, 2009), (2013, 2010)] _ _ rfl rfl)
    ·refine Am hs (Aa Ac rfl (qm rfl (AR rfl (qa rfl (Ae ?_)))))
     exact Au _ h (sm [(2005, 2012), (2006, 2013)] _ _ rfl rfl)
   ·have h := An c6 h
    refine AS ?_
    exact Au _ h (sm [(2007, 2006)] _ _ rfl rfl)
  ·refine Am hs (Ab (Aa Ac rfl (qm rfl (qa rfl (qa rfl (Ae ?_))))))
   obtain rfl := sj h
   refine Am (sm [(1000, 2007)] [(4, oD (.own 1000)), (5, bD true)] [(1000, .vec 3 (v5.map Ai))] rfl rfl) (AA ?_)
   exact ⟨⟨[_, _], ⟨.tmp _ _ rfl, ⟨.tmp _ _ rfl, tv⟩⟩, rfl⟩, ⟨rfl, tv⟩⟩
theorem LB (N : Nat) (p0 : B5) (r : Ah × (List Af) × Bool) (h : FI N p0 = some r) : AD Tryz.prog 10 [.e (.agg [sC (p0.fb.map Bn), sC (p0.ff.map Bn), sC (p0.fh.map Bn), sC (p0.fv.map Ck)])] [(3, r.2.1.map Ai)] (.tup [.agg [sC (r.1.fb.map Ak), sC (r.1.ff.map Ak), sC (r.1.fh.map Ak), sC (r.1.fc.map Ar)], .one (.own 0), .one (.pure (.val (.bool r.2.2)))]) := by
 unfold FI at h
 refine Av (n := 25) (rs := [.cell 2 29, .tmp 3, .tmp 4]) Tryz.func10 rfl rfl rfl (A6 rfl) (A6 rfl) rfl fun w0 S0 => ?_
 refine Ab (Aa Ac rfl (qb rfl (qz RX rfl (qa rfl (qa rfl (Ae (Ab (Aa Ac rfl (qL ag aF rfl ?_)))))))))
 obtain ⟨v1, a1, h⟩ := bind_some h
 refine AJ [2001, 2002, 2003, 2004] (MS N p0 v1 a1) bc rfl (qm rfl (qx rfl (qx rfl (qz RX rfl (qs Di rfl (qa rfl (Ae (Ab (Ab (Aa Ac rfl (qm rfl (BW rfl (Ae ?_)))))))))))))
 refine Ap rfl (fun c2 => ?_) (fun c2 => ?_)
 ·have h := Ao c2 h
  refine Ab (Aa Ac rfl (qL DL Di rfl (qs Di rfl (qa rfl (qa rfl (Ae ?_))))))
  obtain rfl := sj h
  refine Am ((Bu 3 2005 3 rfl rfl rfl).trans ((Bk 2001 _ _ rfl rfl).trans ((Bk 2002 _ _ rfl rfl).trans ((Bk 2003 _ _ rfl rfl).trans ((Bk 2004 _ _ rfl rfl).trans (sm [(1000, 2005)] [(2, oD (.ptr 2 0)), (3, oD (.own 1000)), (4, bD false)] [(2, .box [sC (v1.1.fb.map Ak), sC (v1.1.ff.map Ak), sC (v1.1.fh.map Ak), sC (v1.1.fc.map Ar)]), (1000, .vec 3 ((([] : List Af)).map Ai))] rfl rfl)))))) (AA ?_)
  exact ⟨⟨[_, _, _], ⟨.cellN _ _ _ _ _ _ _ rfl rfl DL Di rfl rfl (Jx rfl), ⟨.tmp _ _ rfl, ⟨.tmp _ _ rfl, tv⟩⟩⟩, rfl⟩, ⟨rfl, tv⟩⟩
 ·have h := An c2 h
  refine Aq (Ab (Aa Ac rfl (qL DL Di rfl (DT (Bk 2001 _ _ rfl rfl) (DT (Bk 2002 _ _ rfl rfl) (DT (Bk 2003 _ _ rfl rfl) (DT (Bk 2004 _ _ rfl rfl) ?_)))))))
  obtain ⟨v3, a3, h⟩ := bind_some h
  refine AJ [2006] (K0 N v1.1 300 v3 a3) bC rfl (qm rfl (qx rfl (qx rfl (qa rfl (qa rfl (Ae (Ab (Aa Ac rfl (qL DL Di rfl (qm rfl (qm rfl (qs Di rfl (qa rfl (qa rfl (Ae ?_)))))))))))))))
  obtain rfl := sj h
  refine Am (sm [(1000, 2006)] [(2, oD (.ptr 2 0)), (3, oD (.own 1000)), (4, bD v3.2)] [(2, .box [sC (v1.1.fb.map Ak), sC (v1.1.ff.map Ak), sC (v1.1.fh.map Ak), sC (v1.1.fc.map Ar)]), (1000, .vec 3 (v3.1.map Ai))] rfl rfl) (AA ?_)
  exact ⟨⟨[_, _, _], ⟨.cellN _ _ _ _ _ _ _ rfl rfl DL Di rfl rfl (Jx rfl), ⟨.tmp _ _ rfl, ⟨.tmp _ _ rfl, tv⟩⟩⟩, rfl⟩, ⟨rfl, tv⟩⟩
theorem Dh (N : Nat) (r : Ah) (h : Cb N = some r) : AD Tryz.prog 39 [] [(1, r.fb.map Ak), (1, r.ff.map Ak), (1, r.fh.map Ak), (6, r.fc.map Ar)] (.e (.agg [.own 0, .own 1, .own 2, .own 3])) := by
 unfold Cb at h
 refine Av (n := 10) (rs := [.cell 0 29]) Tryz.func39 rfl rfl rfl (A6 rfl) (A6 rfl) rfl fun w0 S0 => ?_
 refine Ab (Aa Ac rfl (qz RX rfl (Ae (Ab (Aa Ac rfl (DY AL Du KI rfl (DY AL Du KI rfl (DY AL Du KI rfl (DY Hp Sm W7 rfl (DY Hp Sm W7 rfl (DT (Bk 4 _ _ rfl rfl) (DT (Bk 5 _ _ rfl rfl) (DY G6 NO Yn rfl (Bz LX Zk rfl (DT (Bk 6 _ _ rfl rfl) (DY EG EO LX rfl (Bz RX ZE rfl (qs Di rfl (Ae ?_)))))))))))))))))))
 obtain rfl := sj h
 refine Am (sm [(1000, 1), (1001, 2), (1002, 3), (1003, 8)] [(0, oD (.ptr 0 0))] [(0, .box [.own 1000, .own 1001, .own 1002, .own 1003]), (1000, .vec 1 ((([2] : List Int)).map Ak)), (1001, .vec 1 ((([0] : List Int)).map Ak)), (1002, .vec 1 ((([1] : List Int)).map Ak)), (1003, .vec 6 ((([(AQ.mk 1 0 0 false (([([true, true] : List Bool), ([false, true] : List Bool)] : List (List Bool))) (([] : List (List Bool))))] : List AQ)).map Ar))] rfl rfl) (AA ?_)
 exact ⟨⟨[_], ⟨.cellN _ _ _ _ _ _ _ rfl rfl DL Di rfl rfl (Jx rfl), tv⟩, rfl⟩, ⟨rfl, rfl, rfl, rfl, tv⟩⟩
theorem HQ (N : Nat) (p0 : Int) (p1 : Int) (r : Bool) (h : Ev N p0 p1 = some r) : AD Tryz.prog 102 [iD p0, iD p1] [] (bD r) := by
 unfold Ev at h
 refine Av (n := 12) (rs := [.tmp 4]) Tryz.func102 rfl rfl rfl (A6 rfl) (A6 rfl) rfl fun w0 S0 => ?_
 refine Ab (Aa Ac rfl (qa rfl (Ae ?_)))
 refine AO h (fun v1 => mk [(4, bD v1)] []) (fun j1 h => ?_) (fun v1 h => ?_)
 ·refine Aa Ac rfl (qm rfl (Cz rfl (qm rfl ?_)))
  refine AF (t := 7) rfl (fun c2 => ?_) (fun c2 => ?_)
  ·have h := Ao c2 h
   refine qm rfl (qm rfl (AX rfl (qp rfl (qa rfl (Ae ?_)))))
   exact Au _ h (sm [] _ _ rfl rfl)
  ·have h := An c2 h
   refine qn rfl (qn rfl (qn rfl (qp rfl (qa rfl (Ae ?_)))))
   exact Au _ h (sm [] _ _ rfl rfl)
 ·obtain rfl := sj h
  refine Am (sm [] [(4, bD v1)] [] rfl rfl) (AA ?_)
  exact ⟨⟨[_], ⟨.tmp _ _ rfl, tv⟩, rfl⟩, tv⟩
theorem QG (N : Nat) (p0 : Int) (p1 : Bool) (r : Bool) (h : Hf N p0 p1 = some r) : AD Tryz.prog 130 [iD p0, bD p1] [] (bD r) := by
 unfold Hf at h
 refine Av (n := 23) (rs := [.tmp 4]) Tryz.func130 rfl rfl rfl (A6 rfl) (A6 rfl) rfl fun w0 S0 => ?_
 refine Ab (Aa Ac rfl (qa rfl (Ae ?_)))
 refine AO h (fun v1 => mk [(4, bD v1)] []) (fun j1 h => ?_) (fun v1 h => ?_)
 ·refine Aa Ac rfl (qm rfl (BK rfl (qm rfl ?_)))
  refine AF (t := 7) rfl (fun c2 => ?_) (fun c2 => ?_)
  ·have h := Ao c2 h
   refine qn rfl (qn rfl (qp rfl (qm rfl (qn rfl (qn rfl (qn rfl (qu rfl (qu rfl (qn rfl (qn rfl (qu rfl (qu rfl (qn rfl (qp rfl (qa rfl (Ae ?_))))))))))))))))
   exact Au _ h (sm [] _ _ rfl rfl)
  ·have h := An c2 h
   refine qm rfl (BK rfl (qp rfl (qm rfl ?_)))
   refine AF (t := 11) rfl (fun c3 => ?_) (fun c3 => ?_)
   ·have h := Ao c3 h
    refine qn rfl (qn rfl (qn rfl (qu rfl (qu rfl (qn rfl (qn rfl (qu rfl (qu rfl (qn rfl (qp rfl (qa rfl (Ae ?_))))))))))))
    exact Au _ h (sm [] _ _ rfl rfl)
   ·have h := An c3 h
    refine qm rfl (BK rfl (qm rfl ?_))
    refine AF (t := 14) rfl (fun c4 => ?_) (fun c4 => ?_)
    ·have h := Ao c4 h
     refine qn rfl (qn rfl (qp rfl (qm rfl (qm rfl (BW rfl (qp rfl (qp rfl (qa rfl (Ae ?_)))))))))
     exact Au _ h (sm [] _ _ rfl rfl)
    ·have h := An c4 h
     refine qm rfl (BK rfl (qp rfl (qm rfl ?_)))
     refine AF (t := 18) rfl (fun c5 => ?_) (fun c5 => ?_)
     ·have h := Ao c5 h
      refine qm rfl (BW rfl (qp rfl (qp rfl (qa rfl (Ae ?_)))))
      exact Au _ h (sm [] _ _ rfl rfl)
     ·have h := An c5 h
      refine qn rfl (qn rfl (qp rfl (qp rfl (qa rfl (Ae ?_)))))
      exact Au _ h (sm [] _ _ rfl rfl)
 ·obtain rfl := sj h
  refine Am (sm [] [(4, bD v1)] [] rfl rfl) (AA ?_)
  exact ⟨⟨[_], ⟨.tmp _ _ rfl, tv⟩, rfl⟩, tv⟩
theorem MQ (N : Nat) (p0 : List Bool) (p1 : Int) (r : Bool) (h : Ek N p0 p1 = some r) : AD Tryz.prog 160 [pD (.sl (p0.map eB)), oD (.rop [.val (.int .i64 p1)])] [] (bD r) := by
 unfold Ek at h
 refine Av (n := 8) (rs := [.tmp 3]) Tryz.func160 rfl rfl rfl (A6 rfl) (A6 rfl) rfl fun w0 S0 => ?_
 refine Ab (Aa Ac rfl (qa rfl (Ae (Ab (Aa Ac rfl (qm rfl (A1 Hp rfl (qk Cm rfl (Cp rfl (qa rfl (Ae ?_)))))))))))
 obtain rfl := sj h
 refine Am (sm [] [(3, bD (((p0.length : Int) != p1)))] [] rfl rfl) (AA ?_)
 exact ⟨⟨[_], ⟨.tmp _ _ rfl, tv⟩, rfl⟩, tv⟩
theorem IE (N : Nat) (p0 : List (List Bool)) (p1 : (List Bool) → Option Bool) (r : Int) (h : DQ N p0 p1 = some r) : AD Tryz.prog 170 [pD (.sl (p0.map (Fn eB))), oD (.clo (Bb (Nw false (Fn eB)) tB p1))] [] (iD r) := by
 unfold DQ at h
 refine Av (n := 19) (rs := [.tmp 4]) Tryz.func170 rfl rfl rfl (A6 rfl) (A6 rfl) rfl fun w0 S0 => ?_
 refine Ab (Aa Ac rfl (qa rfl (Ae (Ab (Ab (Aa Ac rfl (qm rfl (A1 G6 rfl (qm rfl (Ae ?_))))))))))
 refine AE (L := BG N p0 p1) h (fun v1 => mk [(0, pD (.sl (p0.map (Fn eB)))), (1, oD (.clo (Bb (Nw false (Fn eB)) tB p1))), (7, iD ((p0.length : Int))), (8, iD v1)] []) (fun v2 => mk [] []) (fun _ _ => rfl) (sm [] _ _ rfl rfl) (fun j1 n1 v1 h => ?_) (fun v2 s h hs => ?_)
 ·unfold BG at h
  refine Ab (Aa Ac rfl (AX rfl (Ae (Ab ?_))))
  refine Ap rfl (fun c3 => ?_) (fun c3 => ?_)
  ·have h := Ao c3 h
   refine Aq (Ab (AK (Ab (Aa Ac rfl (qm rfl (qa rfl (Ae (Ab (Aa Ac rfl (qm rfl (qm rfl (qm rfl ?_))))))))))))
   obtain ⟨v4, a4, b4, h⟩ := Aj h
   refine qi G6 NO a4 (Ag b4) rfl (qk QM rfl ?_)
   obtain ⟨v5, a5, h⟩ := bind_some h
   refine CF (ds0 := [_]) (ar := (Nw false (Fn eB)) v4) (.p rfl) rfl rfl ⟨rfl, tv⟩ rfl rfl rfl (CH (Mn _ _ (Za bR)) a5) ?_
   refine Ae ?_
   refine Ap rfl (fun c6 => ?_) (fun c6 => ?_)
   ·have h := Ao c6 h
    refine Ab (Aa Ac rfl (qm rfl (qa rfl (Ae ?_))))
    obtain rfl := sj h
    refine Am (sm [] [(4, iD v1)] [] rfl rfl) (AA ?_)
    exact ⟨⟨[_], ⟨.tmp _ _ rfl, tv⟩, rfl⟩, tv⟩
   ·have h := An c6 h
    refine Aq (Aa Ac rfl (AR rfl (qm rfl (Ae ?_))))
    exact Au _ h (sm [] _ _ rfl rfl)
  ·have h := An c3 h
   refine AS ?_
   exact Au _ h (sm [] _ _ rfl rfl)
 ·refine Am hs (Ab (Aa Ac rfl (qa rfl (Ae ?_))))
  obtain rfl := sj h
  refine Am (sm [] [(4, iD ((-1)))] [] rfl rfl) (AA ?_)
  exact ⟨⟨[_], ⟨.tmp _ _ rfl, tv⟩, rfl⟩, tv⟩
theorem Ic (N : Nat) (p0 : List (List Bool)) (p1 : (List Bool) → Option Bool) (r : Bool) (h : Dm N p0 p1 = some r) : AD Tryz.prog 159 [pD (.sl (p0.map (Fn eB))), oD (.clo (Bb (Nw false (Fn eB)) tB p1))] [] (bD r) := by
 unfold Dm at h
 refine Av (n := 9) (rs := [.tmp 4]) Tryz.func159 rfl rfl rfl (A6 rfl) (A6 rfl) rfl fun w0 S0 => ?_
 refine Ab (Aa Ac rfl (qa rfl (Ae (Ab (Aa Ac rfl (qm rfl (qm rfl ?_)))))))
 obtain ⟨v1, a1, h⟩ := bind_some h
 refine AJ [] (IE N p0 p1 v1 a1) ad rfl (Cz rfl (qa rfl (Ae ?_)))
 obtain rfl := sj h
 refine Am (sm [] [(4, bD ((decide (0 ≤ v1))))] [] rfl rfl) (AA ?_)
 exact ⟨⟨[_], ⟨.tmp _ _ rfl, tv⟩, rfl⟩, tv⟩
theorem Li (N : Nat) (p0 : List (List Bool)) (p1 : Int) (p2 : Int) (r : Bool) (h : Fz N p0 p1 p2 = some r) : AD Tryz.prog 131 [pD (.sl (p0.map (Fn eB))), iD p1, iD p2] [] (bD r) := by
 unfold Fz at h
 refine Av (n := 17) (rs := [.tmp 6]) Tryz.func131 rfl rfl rfl (A6 rfl) (A6 rfl) rfl fun w0 S0 => ?_
 refine Ab (Aa Ac rfl (qb rfl (qa rfl (Ae ?_))))
 refine AO h (fun v1 => mk [(6, bD v1)] []) (fun j1 h => ?_) (fun v1 h => ?_)
 ·refine Aa Ac rfl (qm rfl (A1 G6 rfl (qm rfl (BK rfl (qm rfl ?_)))))
  refine AF (t := 11) rfl (fun c2 => ?_) (fun c2 => ?_)
  ·have h := Ao c2 h
   refine qm rfl (DT (MB 5 [.val (.int .i64 p2)] rfl rfl) ?_)
   refine LN (capD := [_]) (Bb (Nw false (Fn eB)) tB ((fun (x : List Bool) => Ek N x p2))) (.g rfl rfl) Zn rfl ⟨rfl, tv⟩ rfl (fun ar t ht => by obtain ⟨x, r, rfl, hq, rfl⟩ := Ij ht; exact MQ N x p2 r hq) ?_
   obtain ⟨v3, a3, h⟩ := bind_some h
   refine AJ [] (Ic N p0 ((fun (x : List Bool) => Ek N x p2)) v3 a3) ZA rfl (BW rfl (qp rfl (qa rfl (Ae ?_))))
   exact Au _ h (sm [] _ _ rfl rfl)
  ·have h := An c2 h
   refine qn rfl (qn rfl (qn rfl (qn rfl (qp rfl (qa rfl (Ae ?_))))))
   exact Au _ h (sm [] _ _ rfl rfl)
 ·obtain rfl := sj h
  refine Am (sm [] [(6, bD v1)] [] rfl rfl) (AA ?_)
  exact ⟨⟨[_], ⟨.tmp _ _ rfl, tv⟩, rfl⟩, tv⟩
theorem Ps (N : Nat) (p0 : Ah) (p1 : AQ) (r : Int) (h : GM N p0 p1 = some r) : AD Tryz.prog 103 [.e (.agg [sC (p0.fb.map Ak), sC (p0.ff.map Ak), sC (p0.fh.map Ak), sC (p0.fc.map Ar)]), .e (.agg [iC p1.fg, iC p1.fi, iC p1.fk, .pure (.val (.bool p1.fp)), sC (p1.fq.map (Fn eB)), sC (p1.fm.map (Fn eB))])] [] (iD r) := by
 unfold GM at h
 refine Av (n := 87) (rs := [.tmp 4]) Tryz.func103 rfl rfl rfl (A6 rfl) (A6 rfl) rfl fun w0 S0 => ?_
 refine Ab (Aa Ac rfl (qb rfl (qb rfl (qa rfl (Ae (Ab (Ab (Aa Ac rfl (qf Gx rfl (ql Cm rfl (qf JJ rfl (ql TI rfl ?_))))))))))))
 obtain ⟨v1, a1, h⟩ := bind_some h
 refine AJ [] (QG N p1.fg p1.fp v1 a1) aC rfl (BW rfl (Ae ?_))
 refine Ap rfl (fun c2 => ?_) (fun c2 => ?_)
 ·have h := Ao c2 h
  refine Ab (Aa Ac rfl (qa rfl (Ae ?_)))
  obtain rfl := sj h
  refine Am (sm [] [(4, iD 1)] [] rfl rfl) (AA ?_)
  exact ⟨⟨[_], ⟨.tmp _ _ rfl, tv⟩, rfl⟩, tv⟩
 ·have h := An c2 h
  refine Aq (Ab ?_)
  refine AO h (fun v3 => mk [(2, oD (.ptr 2 0)), (3, oD (.ptr 3 0)), (29, bD v3)] [(2, .box [sC (p0.fb.map Ak), sC (p0.ff.map Ak), sC (p0.fh.map Ak), sC (p0.fc.map Ar)]), (3, .box [iC p1.fg, iC p1.fi, iC p1.fk, .pure (.val (.bool p1.fp)), sC (p1.fq.map (Fn eB)), sC (p1.fm.map (Fn eB))])]) (fun j3 h => ?_) (fun v3 h => ?_)
  ·refine Aa Ac rfl (qf DI rfl (ql Cm rfl (qf BO rfl (ql Bo rfl (A1 AL rfl ?_)))))
   obtain ⟨v4, a4, h⟩ := bind_some h
   refine AJ [] (HQ N p1.fi ((p0.fb.length : Int)) v4 a4) TE rfl (BW rfl (qm rfl ?_))
   refine AF (t := 21) rfl (fun c5 => ?_) (fun c5 => ?_)
   ·have h := Ao c5 h
    refine qn rfl (qn rfl (qn rfl (qn rfl (qn rfl (qn rfl (qn rfl (qp rfl (Ae ?_))))))))
    exact Au _ h (sm [] _ _ rfl rfl)
   ·have h := An c5 h
    refine qf IV rfl (ql Cm rfl (qf BO rfl (ql Bo rfl (A1 AL rfl ?_))))
    obtain ⟨v6, a6, h⟩ := bind_some h
    refine AJ [] (HQ N p1.fk ((p0.fb.length : Int)) v6 a6) TE rfl (BW rfl (qp rfl (Ae ?_)))
    exact Au _ h (sm [] _ _ rfl rfl)
  ·refine Ap rfl (fun c7 => ?_) (fun c7 => ?_)
   ·have h := Ao c7 h
    refine Ab (Aa Ac rfl (qa rfl (Ae ?_)))
    obtain rfl := sj h
    refine Am (sm [] [(4, iD 4)] [] rfl rfl) (AA ?_)
    exact ⟨⟨[_], ⟨.tmp _ _ rfl, tv⟩, rfl⟩, tv⟩
   ·have h := An c7 h
    refine Aq (Ab (Aa Ac rfl (qf BO rfl (ql Bo rfl (qf DI rfl (ql Cm rfl ?_))))))
    obtain ⟨v8, a8, b8, h⟩ := Aj h
    refine qi AL Du a8 (Ag b8) rfl (qk Cm rfl (qa rfl (Ae (Ab (Aa Ac rfl (qf Gx rfl (ql Cm rfl (BK rfl (qa rfl (Ae (Ab ?_)))))))))))
    refine AO h (fun v9 => mk [(3, oD (.ptr 3 0)), (70, bD v9)] [(3, .box [iC p1.fg, iC p1.fi, iC p1.fk, .pure (.val (.bool p1.fp)), sC (p1.fq.map (Fn eB)), sC (p1.fm.map (Fn eB))])]) (fun j9 h => ?_) (fun v9 h => ?_)
    ·refine Aa Ac rfl (qf Kx rfl (ql KL rfl (qm rfl (qf BO rfl (ql Bo rfl (qf IV rfl (ql Cm rfl ?_)))))))
     obtain ⟨v10, a10, b10, h⟩ := Aj h
     refine qi AL Du a10 (Ag b10) rfl (qk Cm rfl ?_)
     obtain ⟨v11, a11, h⟩ := bind_some h
     refine AJ [] (Li N p1.fq v8 v10 v11 a11) XH rfl (BW rfl (qm rfl ?_))
     refine AF (t := 50) rfl (fun c12 => ?_) (fun c12 => ?_)
     ·have h := Ao c12 h
      refine qn rfl (qn rfl (qu rfl (qu rfl (qu rfl (qu rfl (qu rfl (qu rfl (qn rfl (qp rfl (qm rfl (qn rfl (qn rfl (qn rfl (qu rfl (qu rfl (qu rfl (qu rfl (qn rfl (qp rfl (AB (by kernel_rfl) ?_))))))))))))))))))))
      exact Au _ h (sm [] _ _ rfl rfl)
     ·have h := An c12 h
      refine qm rfl (qm rfl ?_)
      refine AF (t := 52) rfl (fun c13 => ?_) (fun c13 => ?_)
      ·have h := Ao c13 h
       refine qf Hr rfl (ql KL rfl (qm rfl (qm rfl ?_)))
       obtain ⟨v14, a14, h⟩ := bind_some h
       refine AJ [] (Li N p1.fm v8 v8 v14 a14) XH rfl (BW rfl (qp rfl (qp rfl (qm rfl ?_))))
       refine AF (t := 61) rfl (fun c15 => ?_) (fun c15 => ?_)
       ·have h := Ao c15 h
        refine qn rfl (qn rfl (qn rfl (qu rfl (qu rfl (qu rfl (qu rfl (qn rfl (qp rfl (AB (by kernel_rfl) ?_)))))))))
        exact Au _ h (sm [] _ _ rfl rfl)
       ·have h := An c15 h
        refine qm rfl (BW rfl (qm rfl ?_))
        refine AF (t := 64) rfl (fun c16 => ?_) (fun c16 => ?_)
        ·have h := Ao c16 h
         refine qf Hr rfl (ql KL rfl (A1 G6 rfl (E2 rfl (qp rfl (qp rfl (AB (by kernel_rfl) ?_))))))
         exact Au _ h (sm [] _ _ rfl rfl)
        ·have h := An c16 h
         refine qn rfl (qn rfl (qn rfl (qn rfl (qp rfl (qp rfl (AB (by kernel_rfl) ?_))))))
         exact Au _ h (sm [] _ _ rfl rfl)
      ·have h := An c13 h
       refine qn rfl (qn rfl (qn rfl (qn rfl (qn rfl (qn rfl (qp rfl (qp rfl (qm rfl (qm rfl (BW rfl (qm rfl ?_)))))))))))
       refine AF (t := 64) rfl (fun c17 => ?_) (fun c17 => ?_)
       ·have h := Ao c17 h
        refine qf Hr rfl (ql KL rfl (A1 G6 rfl (E2 rfl (qp rfl (qp rfl (AB (by kernel_rfl) ?_))))))
        exact Au _ h (sm [] _ _ rfl rfl)
       ·have h := An c17 h
        refine qn rfl (qn rfl (qn rfl (qn rfl (qp rfl (qp rfl (AB (by kernel_rfl) ?_))))))
        exact Au _ h (sm [] _ _ rfl rfl)
    ·refine Ap rfl (fun c18 => ?_) (fun c18 => ?_)
     ·have h := Ao c18 h
      refine Ab (Aa Ac rfl (qa rfl (Ae ?_)))
      obtain rfl := sj h
      refine Am (sm [] [(4, iD 6)] [] rfl rfl) (AA ?_)
      exact ⟨⟨[_], ⟨.tmp _ _ rfl, tv⟩, rfl⟩, tv⟩
     ·have h := An c18 h
      refine Aq (Ab (Ab (Aa Ac rfl (qf Hr rfl (ql KL rfl (A1 G6 rfl (qm rfl (Ae ?_))))))))
      refine AE (L := Dw N p1) h (fun v19 => mk [(3, oD (.ptr 3 0)), (73, iD ((p1.fm.length : Int))), (74, iD v19)] [(3, .box [iC p1.fg, iC p1.fi, iC p1.fk, .pure (.val (.bool p1.fp)), sC (p1.fq.map (Fn eB)), sC (p1.fm.map (Fn eB))])]) (fun v20 => mk [] []) (fun _ _ => rfl) (sm [] _ _ rfl rfl) (fun j19 n19 v19 h => ?_) (fun v20 s h hs => ?_)
      ·unfold Dw at h
       refine Ab (Aa Ac rfl (AX rfl (Ae (Ab ?_))))
       refine Ap rfl (fun c21 => ?_) (fun c21 => ?_)
       ·have h := Ao c21 h
        refine Aq (Ab (AK (Ab (Aa Ac rfl (qm rfl (qa rfl (Ae (Ab (Aa Ac rfl (qf Hr rfl (ql KL rfl (qm rfl ?_))))))))))))
        obtain ⟨v22, a22, b22, h⟩ := Aj h
        refine qi G6 NO a22 (Ag b22) rfl (qk QM rfl (qm rfl ?_))
        obtain ⟨v23, a23, b23, h⟩ := Aj h
        refine qi Hp Sm a23 (Ag b23) rfl (qk TI rfl (BW rfl (Ae ?_)))
        refine Ap rfl (fun c24 => ?_) (fun c24 => ?_)
        ·have h := Ao c24 h
         refine Ab (Aa Ac rfl (qa rfl (Ae ?_)))
         obtain rfl := sj h
         refine Am (sm [] [(4, iD 1)] [] rfl rfl) (AA ?_)
         exact ⟨⟨[_], ⟨.tmp _ _ rfl, tv⟩, rfl⟩, tv⟩
        ·have h := An c24 h
         refine Aq (Aa Ac rfl (AR rfl (qm rfl (Ae ?_))))
         exact Au _ h (sm [] _ _ rfl rfl)
       ·have h := An c21 h
        refine AS ?_
        exact Au _ h (sm [] _ _ rfl rfl)
      ·refine Am hs (Ab (Aa Ac rfl (qa rfl (Ae ?_))))
       obtain rfl := sj h
       refine Am (sm [] [(4, iD 0)] [] rfl rfl) (AA ?_)
       exact ⟨⟨[_], ⟨.tmp _ _ rfl, tv⟩, rfl⟩, tv⟩
theorem FK (N : Nat) (p0 : Ah) (r : Int) (h : CS N p0 = some r) : AD Tryz.prog 58 [.e (.agg [sC (p0.fb.map Ak), sC (p0.ff.map Ak), sC (p0.fh.map Ak), sC (p0.fc.map Ar)])] [] (iD r) := by
 unfold CS at h
 refine Av (n := 81) (rs := [.tmp 2]) Tryz.func58 rfl rfl rfl (A6 rfl) (A6 rfl) rfl fun w0 S0 => ?_
 refine Ab (Aa Ac rfl (qb rfl (qa rfl (Ae (Ab (Aa Ac rfl (qf BO rfl (ql Bo rfl (A1 AL rfl (qa rfl (Ae (Ab ?_))))))))))))
 refine AO h (fun v1 => mk [(1, oD (.ptr 1 0)), (3, iD ((p0.fb.length : Int))), (19, bD v1)] [(1, .box [sC (p0.fb.map Ak), sC (p0.ff.map Ak), sC (p0.fh.map Ak), sC (p0.fc.map Ar)])]) (fun j1 h => ?_) (fun v1 h => ?_)
 ·refine Aa Ac rfl (qm rfl (E2 rfl (qm rfl ?_)))
  refine AF (t := 14) rfl (fun c2 => ?_) (fun c2 => ?_)
  ·have h := Ao c2 h
   refine qn rfl (qn rfl (qn rfl (qn rfl (qp rfl (Ae ?_)))))
   exact Au _ h (sm [] _ _ rfl rfl)
  ·have h := An c2 h
   refine qf Dc rfl (ql Ia rfl (A1 EG rfl (E2 rfl (qp rfl (Ae ?_)))))
   exact Au _ h (sm [] _ _ rfl rfl)
 ·refine Ap rfl (fun c3 => ?_) (fun c3 => ?_)
  ·have h := Ao c3 h
   refine Ab (Aa Ac rfl (qa rfl (Ae ?_)))
   obtain rfl := sj h
   refine Am (sm [] [(2, iD 3)] [] rfl rfl) (AA ?_)
   exact ⟨⟨[_], ⟨.tmp _ _ rfl, tv⟩, rfl⟩, tv⟩
  ·have h := An c3 h
   refine Aq (Ab ?_)
   refine AO h (fun v4 => mk [(1, oD (.ptr 1 0)), (31, bD v4)] [(1, .box [sC (p0.fb.map Ak), sC (p0.ff.map Ak), sC (p0.fh.map Ak), sC (p0.fc.map Ar)])]) (fun j4 h => ?_) (fun v4 h => ?_)
   ·refine Aa Ac rfl (qf Hq rfl (ql Bo rfl (A1 AL rfl (qm rfl (Cp rfl (qm rfl ?_))))))
    refine AF (t := 25) rfl (fun c5 => ?_) (fun c5 => ?_)
    ·have h := Ao c5 h
     refine qn rfl (qn rfl (qn rfl (qn rfl (qn rfl (qp rfl (Ae ?_))))))
     exact Au _ h (sm [] _ _ rfl rfl)
    ·have h := An c5 h
     refine qf Ip rfl (ql Bo rfl (A1 AL rfl (qm rfl (Cp rfl (qp rfl (Ae ?_))))))
     exact Au _ h (sm [] _ _ rfl rfl)
   ·refine Ap rfl (fun c6 => ?_) (fun c6 => ?_)
    ·have h := Ao c6 h
     refine Ab (Aa Ac rfl (qa rfl (Ae ?_)))
     obtain rfl := sj h
     refine Am (sm [] [(2, iD 6)] [] rfl rfl) (AA ?_)
     exact ⟨⟨[_], ⟨.tmp _ _ rfl, tv⟩, rfl⟩, tv⟩
    ·have h := An c6 h
     refine Aq (Ab (Ab (Aa Ac rfl (qf BO rfl (ql Bo rfl (A1 AL rfl (qm rfl (Ae ?_))))))))
     refine AE (L := Cf N p0) h (fun v7 => mk [(1, oD (.ptr 1 0)), (33, pD (.sl (p0.fb.map Ak))), (34, iD ((p0.fb.length : Int))), (35, iD v7)] [(1, .box [sC (p0.fb.map Ak), sC (p0.ff.map Ak), sC (p0.fh.map Ak), sC (p0.fc.map Ar)])]) (fun v8 => mk [(1, oD (.ptr 1 0))] [(1, .box [sC (p0.fb.map Ak), sC (p0.ff.map Ak), sC (p0.fh.map Ak), sC (p0.fc.map Ar)])]) (fun _ _ => rfl) (sm [] _ _ rfl rfl) (fun j7 n7 v7 h => ?_) (fun v8 s h hs => ?_)
     ·unfold Cf at h
      refine Ab (Aa Ac rfl (AX rfl (Ae (Ab ?_))))
      refine Ap rfl (fun c9 => ?_) (fun c9 => ?_)
      ·have h := Ao c9 h
       refine Aq (Ab (AK (Ab (Aa Ac rfl (qm rfl ?_)))))
       obtain ⟨v10, a10, b10, h⟩ := Aj h
       refine qi AL Du a10 (Ag b10) rfl (qk Cm rfl (qa rfl (qa rfl (Ae ?_))))
       refine AO h (fun v11 => mk [(1, oD (.ptr 1 0)), (33, pD (.sl (p0.fb.map Ak))), (34, iD ((p0.fb.length : Int))), (35, iD v7), (65, bD v11)] [(1, .box [sC (p0.fb.map Ak), sC (p0.ff.map Ak), sC (p0.fh.map Ak), sC (p0.fc.map Ar)])]) (fun j11 h => ?_) (fun v11 h => ?_)
       ·refine Aa Ac rfl (qm rfl (AX rfl (qm rfl ?_)))
        refine AF (t := 42) rfl (fun c12 => ?_) (fun c12 => ?_)
        ·have h := Ao c12 h
         refine qn rfl (qn rfl (qp rfl (qm rfl (qn rfl (qn rfl (qn rfl (qn rfl (qn rfl (qn rfl (qn rfl (qn rfl (qp rfl (qm rfl (qn rfl (qn rfl (qn rfl (qn rfl (qn rfl (qn rfl (qn rfl (qn rfl (qp rfl (Ae ?_)))))))))))))))))))))))
         exact Au _ h (sm [] _ _ rfl rfl)
        ·have h := An c12 h
         refine qm rfl (E2 rfl (qp rfl (qm rfl ?_)))
         refine AF (t := 46) rfl (fun c13 => ?_) (fun c13 => ?_)
         ·have h := Ao c13 h
          refine qn rfl (qn rfl (qn rfl (qn rfl (qn rfl (qn rfl (qn rfl (qn rfl (qp rfl (qm rfl (qn rfl (qn rfl (qn rfl (qn rfl (qn rfl (qn rfl (qn rfl (qn rfl (qp rfl (Ae ?_)))))))))))))))))))
          exact Au _ h (sm [] _ _ rfl rfl)
         ·have h := An c13 h
          refine qf Hq rfl (ql Bo rfl (qm rfl ?_))
          obtain ⟨v14, a14, b14, h⟩ := Aj h
          refine qi AL Du a14 (Ag b14) rfl (qk Cm rfl (qm rfl ?_))
          obtain ⟨v15, a15, h⟩ := bind_some h
          refine AJ [] (HQ N v14 v10 v15 a15) TE rfl (BW rfl (qp rfl (qm rfl ?_)))
          refine AF (t := 56) rfl (fun c16 => ?_) (fun c16 => ?_)
          ·have h := Ao c16 h
           refine qn rfl (qn rfl (qn rfl (qn rfl (qn rfl (qn rfl (qn rfl (qn rfl (qp rfl (Ae ?_)))))))))
           exact Au _ h (sm [] _ _ rfl rfl)
          ·have h := An c16 h
           refine qf Ip rfl (ql Bo rfl (qm rfl ?_))
           obtain ⟨v17, a17, b17, h⟩ := Aj h
           refine qi AL Du a17 (Ag b17) rfl (qk Cm rfl (qm rfl ?_))
           obtain ⟨v18, a18, h⟩ := bind_some h
           refine AJ [] (HQ N v17 v10 v18 a18) TE rfl (BW rfl (qp rfl (Ae ?_)))
           exact Au _ h (sm [] _ _ rfl rfl)
       ·refine Ap rfl (fun c19 => ?_) (fun c19 => ?_)
        ·have h := Ao c19 h
         refine Ab (Aa Ac rfl (qa rfl (Ae ?_)))
         obtain rfl := sj h
         refine Am (sm [] [(2, iD 7)] [] rfl rfl) (AA ?_)
         exact ⟨⟨[_], ⟨.tmp _ _ rfl, tv⟩, rfl⟩, tv⟩
        ·have h := An c19 h
         refine Aq (Aa Ac rfl (AR rfl (qm rfl (Ae ?_))))
         exact Au _ h (sm [] _ _ rfl rfl)
      ·have h := An c9 h
       refine AS ?_
       exact Au _ h (sm [] _ _ rfl rfl)
     ·refine Am hs (Ab (Ab (Aa Ac rfl (qf Dc rfl (ql Ia rfl (A1 EG rfl (qm rfl (Ae ?_))))))))
      refine AE (L := B8 N p0) h (fun v20 => mk [(1, oD (.ptr 1 0)), (68, pD (.sl (p0.fc.map Ar))), (69, iD ((p0.fc.length : Int))), (70, iD v20)] [(1, .box [sC (p0.fb.map Ak), sC (p0.ff.map Ak), sC (p0.fh.map Ak), sC (p0.fc.map Ar)])]) (fun v21 => mk [] []) (fun _ _ => rfl) (sm [] _ _ rfl rfl) (fun j20 n20 v20 h => ?_) (fun v21 s h hs => ?_)
      ·unfold B8 at h
       refine Ab (Aa Ac rfl (AX rfl (Ae (Ab ?_))))
       refine Ap rfl (fun c22 => ?_) (fun c22 => ?_)
       ·have h := Ao c22 h
        refine Aq (Ab (AK (Ab (Aa Ac rfl ?_))))
        obtain ⟨v23, a23, b23, h⟩ := Aj h
        refine qi EG EO a23 (Ag b23) rfl (qK Io EO rfl (qz LX rfl (qs EO rfl (Ae (Ab (Aa Ac rfl (qL DL Di rfl (qL Io EO rfl ?_))))))))
        obtain ⟨v24, a24, h⟩ := bind_some h
        refine AJ [] (Ps N p0 v23 v24 a24) ZZ rfl (qa rfl (Ae (Ab (Aa Ac rfl (qm rfl (Cp rfl (Ae ?_)))))))
        refine Ap rfl (fun c25 => ?_) (fun c25 => ?_)
        ·have h := Ao c25 h
         refine Ab (Aa Ac rfl (qm rfl (qa rfl (Ae ?_))))
         obtain rfl := sj h
         refine Am (sm [] [(2, iD v24)] [] rfl rfl) (AA ?_)
         exact ⟨⟨[_], ⟨.tmp _ _ rfl, tv⟩, rfl⟩, tv⟩
        ·have h := An c25 h
         refine Aq (Aa Ac rfl (AR rfl (qm rfl (Ae ?_))))
         exact Au _ h (sm [] _ _ rfl rfl)
       ·have h := An c22 h
        refine AS ?_
        exact Au _ h (sm [] _ _ rfl rfl)
      ·refine Am hs (Ab (Aa Ac rfl (qa rfl (Ae ?_))))
       obtain rfl := sj h
       refine Am (sm [] [(2, iD 0)] [] rfl rfl) (AA ?_)
       exact ⟨⟨[_], ⟨.tmp _ _ rfl, tv⟩, rfl⟩, tv⟩
theorem Db (N : Nat) (p0 : List Int) (r : (List Int)) (h : Bx N p0 = some r) : AD Tryz.prog 66 [pD (.sl (p0.map Ak))] [(1, r.map Ak)] (oD (.own 0)) := by
 unfold Bx at h
 refine Av (n := 8) (rs := [.tmp 2]) Tryz.func66 rfl rfl rfl (A6 rfl) (A6 rfl) rfl fun w0 S0 => ?_
 refine Ab (Aa Ac rfl (qa rfl (Ae (Ab (Ab (Aa Ac rfl (qm rfl ?_)))))))
 refine TT (.p rfl) rfl AL ?_
 refine Ae ?_
 refine TF rfl (fun c2 => ?_) ?_
 ·have c2 := List.map_eq_nil_iff.1 c2
  rw [c2] at h
  have h : (some (([] : List Int))) = some r := h
  refine Ab (Aa Ac rfl (qa rfl (Ae ?_)))
  obtain rfl := sj h
  refine Am ((Bu 2 2001 1 rfl rfl rfl).trans (sm [(1000, 2001)] [(2, oD (.own 1000))] [(1000, .vec 1 ((([] : List Int)).map Ak))] rfl rfl)) (AA ?_)
  exact ⟨⟨[_], ⟨.tmp _ _ rfl, tv⟩, rfl⟩, ⟨rfl, tv⟩⟩
 ·refine Aq (Ab (Aa Ac rfl (DY AL Du KI rfl (qm rfl ?_))))
  obtain ⟨c1, h⟩ := AU h
  refine JN (f := Ak) AL AL Du M4 KI (fun _ => rfl) c1 rfl (qa rfl (Ae ?_))
  obtain rfl := sj h
  refine Am (sm [(1000, 7)] [(2, oD (.own 1000))] [(1000, .vec 1 (((([] : List Int)) ++ p0).map Ak))] rfl rfl) (AA ?_)
  exact ⟨⟨[_], ⟨.tmp _ _ rfl, tv⟩, rfl⟩, ⟨rfl, tv⟩⟩
theorem L8 (N : Nat) (p0 : Int) (p1 : Int) (r : Int × Int) (h : Ht N p0 p1 = some r) : AD Tryz.prog 153 [pD (.val (.int .u32 p0)), pD (.val (.int .u32 p1))] [] (.tup [.one (.pure (.val (.int .u32 r.1))), .one (.pure (.val (.int .u32 r.2)))]) := by
 unfold Ht at h
 refine Av (n := 17) (rs := [.tmp 4, .tmp 5]) Tryz.func153 rfl rfl rfl (A6 rfl) (A6 rfl) rfl fun w0 S0 => ?_
 refine Ab (Aa Ac rfl (qa rfl (qa rfl (Ae (Ab (Aa Ac rfl (qm rfl (GY RT XG rfl (qm rfl (GY RT XG rfl (HJ rfl (qa rfl (Ae (Ab (Aa Ac rfl (qm rfl (HI rfl (by decide) (GY Wm Ry rfl (qm rfl (GY Wm Ry rfl (qa rfl (qa rfl (Ae ?_)))))))))))))))))))))))
 obtain rfl := sj h
 refine Am (sm [] [(4, pD (.val (.int .u32 ((wI .u32 ((Eh .u64 ((wI .u64 ((wI .u64 p0) * (wI .u64 p1)))) 32))))))), (5, pD (.val (.int .u32 ((wI .u32 ((wI .u64 ((wI .u64 p0) * (wI .u64 p1)))))))))] [] rfl rfl) (AA ?_)
 exact ⟨⟨[_, _], ⟨.tmp _ _ rfl, ⟨.tmp _ _ rfl, tv⟩⟩, rfl⟩, tv⟩
theorem MM (N : Nat) (p0 : Int) (p1 : Int) (r : Int × Int) (h : Hx N p0 p1 = some r) : AD Tryz.prog 154 [pD (.val (.int .u64 p0)), pD (.val (.int .u64 p1))] [] (.tup [.one (.pure (.val (.int .u64 r.1))), .one (.pure (.val (.int .u64 r.2)))]) := by
 unfold Hx at h
 refine Av (n := 51) (rs := [.tmp 4, .tmp 5]) Tryz.func154 rfl rfl rfl (A6 rfl) (A6 rfl) rfl fun w0 S0 => ?_
 refine Ab (Aa Ac rfl (qa rfl (qa rfl (Ae (Ab (Aa Ac rfl (qm rfl (LF rfl (qa rfl (Ae (Ab (Aa Ac rfl (qm rfl (HI rfl (by decide) (qa rfl (Ae (Ab (Aa Ac rfl (qm rfl (LF rfl (qa rfl (Ae (Ab (Aa Ac rfl (qm rfl (HI rfl (by decide) (qa rfl (Ae (Ab (Aa Ac rfl (qm rfl (qm rfl (HJ rfl (qa rfl (Ae (Ab (Aa Ac rfl (qm rfl (qm rfl ?_)))))))))))))))))))))))))))))))))))))))
 refine HJ rfl (qm rfl (HI rfl (by decide) (AR rfl (qa rfl (Ae (Ab (Aa Ac rfl (qm rfl (LF rfl (qa rfl (Ae (Ab (Aa Ac rfl (qm rfl (HI rfl (by decide) (qa rfl (Ae (Ab (Aa Ac rfl (qm rfl (qm rfl (qm rfl (HJ rfl (AR rfl (qa rfl (Ae (Ab (Aa Ac rfl (qm rfl (qm rfl (HJ rfl (qm rfl (AR rfl (qm rfl (HI rfl (by decide) (AR rfl (qa rfl (Ae (Ab ?_)))))))))))))))))))))))))))))))))))))))
 refine Aa Ac rfl (qm rfl (qm rfl (HJ rfl (qa rfl (Ae ?_)))))
 obtain rfl := sj h
 refine Am (sm [] [(4, pD (.val (.int .u64 ((wI .u64 ((wI .u64 ((wI .u64 ((Eh .u64 p0 32) * (Eh .u64 p1 32))) + (Eh .u64 ((wI .u64 ((wI .u64 ((Eh .u64 p0 32) * (Gf .u64 p1 4294967295))) + (Eh .u64 ((wI .u64 ((Gf .u64 p0 4294967295) * (Gf .u64 p1 4294967295)))) 32)))) 32))) + (Eh .u64 ((wI .u64 ((Gf .u64 ((wI .u64 ((wI .u64 ((Eh .u64 p0 32) * (Gf .u64 p1 4294967295))) + (Eh .u64 ((wI .u64 ((Gf .u64 p0 4294967295) * (Gf .u64 p1 4294967295)))) 32)))) 4294967295) + (wI .u64 ((Gf .u64 p0 4294967295) * (Eh .u64 p1 32)))))) 32))))))), (5, pD (.val (.int .u64 ((wI .u64 (p0 * p1))))))] [] rfl rfl) (AA ?_)
 exact ⟨⟨[_, _], ⟨.tmp _ _ rfl, ⟨.tmp _ _ rfl, tv⟩⟩, rfl⟩, tv⟩
theorem NR (N : Nat) (p0 : Int) (p1 : Int) (r : Int × Int) (h : Il N p0 p1 = some r) : AD Tryz.prog 120 [pD (.val (.int .u64 p0)), pD (.val (.int .u64 p1))] [] (.tup [.one (.pure (.val (.int .u64 r.1))), .one (.pure (.val (.int .u64 r.2)))]) := by
 unfold Il at h
 refine Av (n := 30) (rs := [.tmp 4, .tmp 5]) Tryz.func120 rfl rfl rfl (A6 rfl) (A6 rfl) rfl fun w0 S0 => ?_
 refine Ab (Aa Ac rfl (qa rfl (qa rfl (Ae (Ab ?_)))))
 refine Ap rfl (fun c1 => ?_) (fun c1 => ?_)
 ·have h := Ao c1 h
  refine Ab (Aa Ac rfl (qm rfl (GY N0 Ry rfl (qm rfl (GY N0 Ry rfl ?_)))))
  obtain ⟨v2, a2, h⟩ := bind_some h
  refine AJ [] (L8 N ((wI .u32 p0)) ((wI .u32 p1)) v2 a2) ZH rfl (qm rfl (qx rfl (qx rfl (qa rfl (qa rfl (Ae (Ab (Aa Ac rfl (qm rfl (GY RT NE rfl (qm rfl (GY RT NE rfl (qa rfl (qa rfl (Ae ?_)))))))))))))))
  obtain rfl := sj h
  refine Am (sm [] [(4, pD (.val (.int .u64 ((wI .u64 v2.1))))), (5, pD (.val (.int .u64 ((wI .u64 v2.2)))))] [] rfl rfl) (AA ?_)
  exact ⟨⟨[_, _], ⟨.tmp _ _ rfl, ⟨.tmp _ _ rfl, tv⟩⟩, rfl⟩, tv⟩
 ·have h := An c1 h
  refine Aq (Ab (Aa Ac rfl (qm rfl (qm rfl ?_))))
  obtain ⟨v3, a3, h⟩ := bind_some h
  refine AJ [] (MM N p0 p1 v3 a3) ab rfl (qm rfl (qx rfl (qx rfl (qa rfl (qa rfl (Ae (Ab (Aa Ac rfl (qm rfl (qm rfl (qa rfl (qa rfl (Ae ?_)))))))))))))
  obtain rfl := sj h
  refine Am (sm [] [(4, pD (.val (.int .u64 v3.1))), (5, pD (.val (.int .u64 v3.2)))] [] rfl rfl) (AA ?_)
  exact ⟨⟨[_, _], ⟨.tmp _ _ rfl, ⟨.tmp _ _ rfl, tv⟩⟩, rfl⟩, tv⟩
theorem JZ (N : Nat) (p0 : List Int) (p1 : Int) (r : (List Int)) (h : EP N p0 p1 = some r) : AD Tryz.prog 90 [pD (.sl (p0.map Ak)), iD p1] [(1, r.map Ak)] (oD (.own 0)) := by
 unfold EP at h
 refine Av (n := 48) (rs := [.tmp 4]) Tryz.func90 rfl rfl rfl (A6 rfl) (A6 rfl) rfl fun w0 S0 => ?_
 refine Ab (Aa Ac rfl (qa rfl (Ae ?_)))
 refine AO h (fun v1 => mk [(0, pD (.sl (p0.map Ak))), (1, iD p1)] []) (fun j1 h => ?_) (fun v1 h => ?_)
 ·refine Ab (Aa Ac rfl (qm rfl (AX rfl (Ae ?_))))
  refine Ap rfl (fun c2 => ?_) (fun c2 => ?_)
  ·have h := Ao c2 h
   refine Aa Ac rfl ?_
   cases h
  ·have h := An c2 h
   refine Aq ?_
   exact Au _ h (sm [] _ _ rfl rfl)
 ·refine Ab (Aa Ac rfl (qm rfl (A1 AL rfl (GY Wr NE rfl (qm rfl (GY Wr NE rfl ?_))))))
  obtain ⟨v3, a3, h⟩ := bind_some h
  refine AJ [] (NR N ((wI .u64 ((p0.length : Int)))) ((wI .u64 p1)) v3 a3) ZS rfl (qm rfl (qx rfl (qx rfl (qa rfl (qa rfl (Ae ?_))))))
  refine AO h (fun v4 => mk [(0, pD (.sl (p0.map Ak))), (6, pD (.val (.int .u64 v3.2)))] []) (fun j4 h => ?_) (fun v4 h => ?_)
  ·refine AO h (fun v5 => mk [(0, pD (.sl (p0.map Ak))), (6, pD (.val (.int .u64 v3.2))), (26, bD v5)] []) (fun j5 h => ?_) (fun v5 h => ?_)
   ·refine Aa Ac rfl (qm rfl (E2 rfl (qm rfl ?_)))
    refine AF (t := 23) rfl (fun c6 => ?_) (fun c6 => ?_)
    ·have h := Ao c6 h
     refine qn rfl (qn rfl (qp rfl (Ae ?_)))
     exact Au _ h (sm [] _ _ rfl rfl)
    ·have h := An c6 h
     refine qm rfl (E2 rfl (qp rfl (Ae ?_)))
     exact Au _ h (sm [] _ _ rfl rfl)
   ·refine Ap rfl (fun c7 => ?_) (fun c7 => ?_)
    ·have h := Ao c7 h
     refine Aa Ac rfl ?_
     cases h
    ·have h := An c7 h
     refine Aq ?_
     exact Au _ h (sm [] _ _ rfl rfl)
  ·refine Ab (Aa Ac rfl (qm rfl (GY N0 Ud rfl ?_)))
   obtain ⟨c8, h⟩ := AU h
   refine NF (.p rfl) rfl rfl rfl AL Du M4 (A6 rfl) KI rfl rfl rfl c8.1 c8.2.1 c8.2.2 (TG Ak _ ((0 : Int))) ?_
   refine qa rfl (Ae (Ab (Aa Ac rfl (qm rfl (qm rfl ?_)))))
   refine TN Ak (List.replicate ((wI .i64 v3.2)).toNat ((0 : Int))) p0 (.p rfl) rfl (Iz Ak _ _ (List.replicate ((wI .i64 v3.2)).toNat ((0 : Int)))) rfl rfl (WO Ak _ _ (fun _ => rfl)) tv AL Du ?_
   refine qa rfl (Ae (Ab ?_))
   refine AE (L := Ee N) h (fun v9 => mk [(7, oD (.own 2001)), (8, iD v9.2)] [(2001, .vec 1 (v9.1.map Ak))]) (fun v10 => mk [(7, oD (.own 2002))] [(2002, .vec 1 (v10.map Ak))]) (fun _ _ => rfl) (sm [(2001, 30)] _ _ rfl rfl) (fun j9 n9 v9 h => ?_) (fun v10 s h hs => ?_)
   ·unfold Ee at h
    refine Ab (Ab (Aa Ac rfl (qm rfl (qm rfl (EN AL rfl (AX rfl (Ae ?_)))))))
    refine Ap rfl (fun c11 => ?_) (fun c11 => ?_)
    ·have h := Ao c11 h
     refine Aq (AK (Aa Ac rfl (qm rfl (qm rfl (qm rfl ?_)))))
     obtain ⟨c12, h⟩ := AU h
     have w13 : ((v9.2).toNat) + ((v9.1.length - (v9.2).toNat)) ≤ v9.1.length := by have := c12.2.1; have := c12.2.2; omega
     refine Je Ak v9.1 (.p rfl) rfl (Iz Ak _ _ v9.1) rfl AL Du (.some _ _ _ _ c12.1) (.none _) ⟨rfl, tv⟩ tv c12.2.1 (by rw [Nat.zero_add]; exact c12.2.2) (Nat.zero_add _) rfl ?_
     refine qm rfl (qm rfl ?_)
     obtain ⟨c14, h⟩ := AU h
     have w15 : 0 + ((v9.2).toNat) ≤ v9.1.length := by have := c14.2.1; have := c14.2.2; omega
     refine Je Ak v9.1 (.p rfl) rfl (Iz Ak _ _ v9.1) rfl AL Du (.none _) (.some _ _ _ _ c14.1) tv ⟨rfl, tv⟩ c14.2.1 (by rw [Nat.zero_add]; exact c14.2.2) (Nat.zero_add _) rfl ?_
     refine TN Ak v9.1 (((v9.1.drop 0).take ((v9.2).toNat))) (.p rfl) rfl (MR Ak _ _ ((v9.2).toNat) ((v9.1.length - (v9.2).toNat)) v9.1 w13) rfl rfl (T4 Ak _ _ 0 ((v9.2).toNat) v9.1 w15) ⟨rfl, tv⟩ AL Du ?_
     refine AR rfl (qa rfl (AB (by kernel_rfl) ?_))
     exact Au _ h (sm [] _ _ rfl rfl)
    ·have h := An c11 h
     refine AS ?_
     exact Au _ h (sm [(2002, 2001)] _ _ rfl rfl)
   ·refine Am hs (Ab (Aa Ac rfl (qm rfl (qa rfl (Ae ?_)))))
    obtain rfl := sj h
    refine Am (sm [(1000, 2002)] [(4, oD (.own 1000))] [(1000, .vec 1 (v10.map Ak))] rfl rfl) (AA ?_)
    exact ⟨⟨[_], ⟨.tmp _ _ rfl, tv⟩, rfl⟩, ⟨rfl, tv⟩⟩
theorem Ku (N : Nat) (p0 : AQ) (r : Bool) (h : FL N p0 = some r) : AD Tryz.prog 91 [.e (.agg [iC p0.fg, iC p0.fi, iC p0.fk, .pure (.val (.bool p0.fp)), sC (p0.fq.map (Fn eB)), sC (p0.fm.map (Fn eB))])] [] (bD r) := by
 unfold FL at h
 refine Av (n := 11) (rs := [.tmp 2]) Tryz.func91 rfl rfl rfl (A6 rfl) (A6 rfl) rfl fun w0 S0 => ?_
 refine Ab (Aa Ac rfl (qb rfl (qa rfl (Ae ?_))))
 refine AO h (fun v1 => mk [(2, bD v1)] []) (fun j1 h => ?_) (fun v1 h => ?_)
 ·refine Aa Ac rfl (qf Gx rfl (ql Cm rfl (BK rfl (qm rfl ?_))))
  refine AF (t := 6) rfl (fun c2 => ?_) (fun c2 => ?_)
  ·have h := Ao c2 h
   refine qn rfl (qn rfl (qn rfl (qp rfl (qa rfl (Ae ?_)))))
   exact Au _ h (sm [] _ _ rfl rfl)
  ·have h := An c2 h
   refine qf Gx rfl (ql Cm rfl (BK rfl (qp rfl (qa rfl (Ae ?_)))))
   exact Au _ h (sm [] _ _ rfl rfl)
 ·obtain rfl := sj h
  refine Am (sm [] [(2, bD v1)] [] rfl rfl) (AA ?_)
  exact ⟨⟨[_], ⟨.tmp _ _ rfl, tv⟩, rfl⟩, tv⟩
theorem Nt (N : Nat) (p0 : Ah) (r : Af × Int) (h : GZ N p0 = some r) : AD Tryz.prog 44 [.e (.agg [sC (p0.fb.map Ak), sC (p0.ff.map Ak), sC (p0.fh.map Ak), sC (p0.fc.map Ar)])] [(1, r.1.fd.map Ak), (1, r.1.fa.map Ak), (1, r.1.fe.map Bn)] (.tup [.agg [.own 0, .own 1, .own 2], .one (iC r.2)]) := by
 unfold GZ at h
 refine Av (n := 50) (rs := [.cell 2 46, .tmp 3]) Tryz.func44 rfl rfl rfl (A6 rfl) (A6 rfl) rfl fun w0 S0 => ?_
 refine Ab (Aa Ac rfl (qb rfl (qz Cw rfl (qa rfl (Ae (Ab (Ab (Aa Ac rfl (qL DL Di rfl ?_)))))))))
 obtain ⟨v1, a1, h⟩ := bind_some h
 refine AJ [] (FK N p0 v1 a1) Xb rfl (qa rfl (Ae (Ab (Aa Ac rfl (qm rfl (Cp rfl (Ae ?_)))))))
 refine Ap rfl (fun c2 => ?_) (fun c2 => ?_)
 ·have h := Ao c2 h
  refine Ab (Aa Ac rfl (Bz Cw HB rfl (qm rfl (qs Az rfl (qa rfl (Ae ?_))))))
  obtain rfl := sj h
  refine Am ((AH 2 0 2001 1 _ rfl rfl rfl rfl).trans ((AH 2 1 2002 1 _ rfl rfl rfl rfl).trans ((AH 2 2 2003 1 _ rfl rfl rfl rfl).trans (sm [(1000, 2001), (1001, 2002), (1002, 2003)] [(2, oD (.ptr 2 0)), (3, iD v1)] [(2, .box [.own 1000, .own 1001, .own 1002]), (1000, .vec 1 ((([] : List Int)).map Ak)), (1001, .vec 1 ((([] : List Int)).map Ak)), (1002, .vec 1 ((([] : List Int)).map Bn))] rfl rfl)))) (AA ?_)
  exact ⟨⟨[_, _], ⟨.cellN _ _ _ _ _ _ _ rfl rfl A7 Az rfl rfl (Jx rfl), ⟨.tmp _ _ rfl, tv⟩⟩, rfl⟩, ⟨rfl, rfl, rfl, tv⟩⟩
 ·have h := An c2 h
  refine Aq (Ab (Aa Ac rfl (qf Hq rfl (ql Bo rfl ?_))))
  obtain ⟨v3, a3, h⟩ := bind_some h
  refine AJ [2004] (Db N p0.ff v3 a3) Sx rfl (DY AL Du KI rfl (qf Hq rfl (ql Bo rfl (A1 AL rfl ?_))))
  obtain ⟨v4, a4, h⟩ := bind_some h
  refine Dj [2005] [17] (JZ N (([(-1)] : List Int)) ((p0.ff.length : Int)) v4 a4) bH (Jr (fun _ => rfl) B4) rfl (qf Dc rfl (ql Ia rfl (A1 EG rfl ?_)))
  obtain ⟨c5, h⟩ := AU h
  refine NF (.p rfl) rfl rfl rfl Dr F5 RK (A6 rfl) Ob rfl rfl rfl c5.1 c5.2.1 c5.2.2 (TG Bn _ ((0 : Int))) ?_
  refine Bz Cw HB rfl (qz Cw rfl (qs Az rfl (AB (by kernel_rfl) (Ab (Ab (Aa Ac rfl (qf Dc rfl (ql Ia rfl (A1 EG rfl (qm rfl (Ae ?_)))))))))))
  refine AE (L := Ew N p0) h (fun v6 => mk [(1, oD (.ptr 1 0)), (2, oD (.ptr 2 0)), (5, oD (.ptr 5 0)), (28, pD (.sl (p0.fc.map Ar))), (29, iD ((p0.fc.length : Int))), (30, iD v6.2)] [(1, .box [sC (p0.fb.map Ak), sC (p0.ff.map Ak), sC (p0.fh.map Ak), sC (p0.fc.map Ar)]), (2, .box [.pure (.nil0), .pure (.nil0), .pure (.nil0)]), (5, .box [.own 2006, .own 2007, .own 2008]), (2006, .vec 1 (v3.map Ak)), (2007, .vec 1 (v4.map Ak)), (2008, .vec 1 (v6.1.map Bn))]) (fun v7 => mk [(2, oD (.ptr 2 0)), (5, oD (.ptr 5 0))] [(2, .box [.pure (.nil0), .pure (.nil0), .pure (.nil0)]), (5, .box [.own 2009, .own 2010, .own 2011]), (2009, .vec 1 (v3.map Ak)), (2010, .vec 1 (v4.map Ak)), (2011, .vec 1 (v7.map Bn))]) (fun _ _ => rfl) (sm [(2006, 2004), (2007, 2005), (2008, 25)] _ _ rfl rfl) (fun j6 n6 v6 h => ?_) (fun v7 s h hs => ?_)
  ·unfold Ew at h
   refine Ab (Aa Ac rfl (AX rfl (Ae (Ab ?_))))
   refine Ap rfl (fun c8 => ?_) (fun c8 => ?_)
   ·have h := Ao c8 h
    refine Aq ?_
    refine AO h (fun v9 => mk [(1, oD (.ptr 1 0)), (2, oD (.ptr 2 0)), (5, oD (.ptr 5 0)), (28, pD (.sl (p0.fc.map Ar))), (29, iD ((p0.fc.length : Int))), (30, iD v6.2)] [(1, .box [sC (p0.fb.map Ak), sC (p0.ff.map Ak), sC (p0.fh.map Ak), sC (p0.fc.map Ar)]), (2, .box [.pure (.nil0), .pure (.nil0), .pure (.nil0)]), (5, .box [.own 2012, .own 2013, .own 2014]), (2012, .vec 1 (v3.map Ak)), (2013, .vec 1 (v4.map Ak)), (2014, .vec 1 (v9.map Bn))]) (fun j9 h => ?_) (fun v9 h => ?_)
    ·refine AK (Ab (Aa Ac rfl (qm rfl ?_)))
     obtain ⟨v10, a10, b10, h⟩ := Aj h
     refine qi EG EO a10 (Ag b10) rfl (qK Io EO rfl (qz LX rfl (qa rfl (qs EO rfl (Ae (Ab (Aa Ac rfl (qL Io EO rfl ?_))))))))
     obtain ⟨v11, a11, h⟩ := bind_some h
     refine AJ [] (Ku N v10 v11 a11) Yk rfl (Ae ?_)
     refine Ap rfl (fun c12 => ?_) (fun c12 => ?_)
     ·have h := Ao c12 h
      refine Aa Ac rfl (qf CU rfl (ql Hb rfl (qm rfl (qf Hq rfl (ql Bo rfl (qf DI rfl (ql Cm rfl ?_)))))))
      obtain ⟨v13, a13, b13, h⟩ := Aj h
      refine qi AL Du a13 (Ag b13) rfl (qk Cm rfl ?_)
      obtain ⟨c14, h⟩ := AU h
      refine IC rfl c14 ?_
      obtain ⟨v15, a15, b15, h⟩ := Aj h
      refine qI Dr F5 a15 (Ag b15) rfl ?_
      refine AY rfl rfl rfl rfl (Ag b15) rfl F5 rfl (A6 rfl) (AZ Bn v6.1 _ ((CJ .u8 1 v13))) ?_
      refine AB (by kernel_rfl) ?_
      exact Au _ h (sm [(2012, 2006), (2013, 2007), (2014, 2008)] _ _ rfl rfl)
     ·have h := An c12 h
      refine Aq ?_
      exact Au _ h (sm [(2012, 2006), (2013, 2007), (2014, 2008)] _ _ rfl rfl)
    ·refine Aa Ac rfl (AR rfl (qm rfl (Ae ?_)))
     exact Au _ h (sm [(2006, 2012), (2007, 2013), (2008, 2014)] _ _ rfl rfl)
   ·have h := An c8 h
    refine AS ?_
    exact Au _ h (sm [(2009, 2006), (2010, 2007), (2011, 2008)] _ _ rfl rfl)
  ·refine Am hs (Ab (Aa Ac rfl (qL A7 Az rfl (qs Az rfl (qa rfl (Ae ?_))))))
   obtain rfl := sj h
   refine Am (sm [(1000, 2009), (1001, 2010), (1002, 2011)] [(2, oD (.ptr 2 0)), (3, iD 0)] [(2, .box [.own 1000, .own 1001, .own 1002]), (1000, .vec 1 (v3.map Ak)), (1001, .vec 1 (v4.map Ak)), (1002, .vec 1 (v7.map Bn))] rfl rfl) (AA ?_)
   exact ⟨⟨[_, _], ⟨.cellN _ _ _ _ _ _ _ rfl rfl A7 Az rfl rfl (Jx rfl), ⟨.tmp _ _ rfl, tv⟩⟩, rfl⟩, ⟨rfl, rfl, rfl, tv⟩⟩
theorem JM (N : Nat) (p0 : Af) (p1 : Int) (r : Int) (h : Fk N p0 p1 = some r) : AD Tryz.prog 107 [.e (.agg [sC (p0.fd.map Ak), sC (p0.fa.map Ak), sC (p0.fe.map Bn)]), iD p1] [] (pD (.val (.int .u8 r))) := by
 unfold Fk at h
 refine Av (n := 27) (rs := [.tmp 4]) Tryz.func107 rfl rfl rfl (A6 rfl) (A6 rfl) rfl fun w0 S0 => ?_
 refine Ab (Aa Ac rfl (qb rfl (qa rfl (Ae (Ab (Aa Ac rfl (qf CO rfl (ql Bo rfl (qm rfl ?_)))))))))
 obtain ⟨v1, a1, b1, h⟩ := Aj h
 refine qi AL Du a1 (Ag b1) rfl (qk Cm rfl ?_)
 obtain ⟨c2, h⟩ := AU h
 refine IC rfl c2 (qa rfl (Ae ?_))
 refine AO h (fun v3 => mk [(5, pD (.val (.int .u8 v3)))] []) (fun j3 h => ?_) (fun v3 h => ?_)
 ·refine Ab (Aa Ac rfl (qf BH rfl (ql Bo rfl (qm rfl ?_))))
  obtain ⟨v4, a4, b4, h⟩ := Aj h
  refine qi AL Du a4 (Ag b4) rfl (qk Cm rfl (Cz rfl (Ae ?_)))
  refine Ap rfl (fun c5 => ?_) (fun c5 => ?_)
  ·have h := Ao c5 h
   refine Aa Ac rfl (qm rfl (qf BH rfl (ql Bo rfl (qm rfl ?_))))
   obtain ⟨v6, a6, b6, h⟩ := Aj h
   refine qi AL Du a6 (Ag b6) rfl (qk Cm rfl ?_)
   obtain ⟨c7, h⟩ := AU h
   refine IC rfl c7 (UF rfl (qa rfl (Ae ?_)))
   exact Au _ h (sm [] _ _ rfl rfl)
  ·have h := An c5 h
   refine Aq ?_
   exact Au _ h (sm [] _ _ rfl rfl)
 ·refine Ab (Aa Ac rfl (qm rfl (qa rfl (Ae ?_))))
  obtain rfl := sj h
  refine Am (sm [] [(4, pD (.val (.int .u8 v3)))] [] rfl rfl) (AA ?_)
  exact ⟨⟨[_], ⟨.tmp _ _ rfl, tv⟩, rfl⟩, tv⟩
theorem Iw (N : Nat) (p0 : Ah) (p1 : Af) (r : Int) (h : Fd N p0 p1 = some r) : AD Tryz.prog 65 [.e (.agg [sC (p0.fb.map Ak), sC (p0.ff.map Ak), sC (p0.fh.map Ak), sC (p0.fc.map Ar)]), .e (.agg [sC (p1.fd.map Ak), sC (p1.fa.map Ak), sC (p1.fe.map Bn)])] [] (iD r) := by
 unfold Fd at h
 refine Av (n := 135) (rs := [.tmp 4]) Tryz.func65 rfl rfl rfl (A6 rfl) (A6 rfl) rfl fun w0 S0 => ?_
 refine Ab (Aa Ac rfl (qb rfl (qb rfl (qa rfl (Ae (Ab (Ab (Aa Ac rfl (qL DL Di rfl ?_)))))))))
 obtain ⟨v1, a1, h⟩ := bind_some h
 refine AJ [] (FK N p0 v1 a1) Xb rfl (qa rfl (Ae (Ab (Aa Ac rfl (qm rfl (Cp rfl (Ae ?_)))))))
 refine Ap rfl (fun c2 => ?_) (fun c2 => ?_)
 ·have h := Ao c2 h
  refine Ab (Aa Ac rfl (qm rfl (qa rfl (Ae ?_))))
  obtain rfl := sj h
  refine Am (sm [] [(4, iD v1)] [] rfl rfl) (AA ?_)
  exact ⟨⟨[_], ⟨.tmp _ _ rfl, tv⟩, rfl⟩, tv⟩
 ·have h := An c2 h
  refine Aq (Ab ?_)
  refine AO h (fun v3 => mk [(2, oD (.ptr 2 0)), (3, oD (.ptr 3 0)), (41, bD v3)] [(2, .box [sC (p0.fb.map Ak), sC (p0.ff.map Ak), sC (p0.fh.map Ak), sC (p0.fc.map Ar)]), (3, .box [sC (p1.fd.map Ak), sC (p1.fa.map Ak), sC (p1.fe.map Bn)])]) (fun j3 h => ?_) (fun v3 h => ?_)
  ·refine Aa Ac rfl (qf CO rfl (ql Bo rfl (A1 AL rfl (qf BO rfl (ql Bo rfl (A1 AL rfl (Cp rfl (qm rfl ?_))))))))
   refine AF (t := 24) rfl (fun c4 => ?_) (fun c4 => ?_)
   ·have h := Ao c4 h
    refine qn rfl (qn rfl (qn rfl (qn rfl (qn rfl (qn rfl (qn rfl (qp rfl (qm rfl (qn rfl (qn rfl (qn rfl (qn rfl (qn rfl (qn rfl (qn rfl (qp rfl (Ae ?_)))))))))))))))))
    exact Au _ h (sm [] _ _ rfl rfl)
   ·have h := An c4 h
    refine qf BH rfl (ql Bo rfl (A1 AL rfl (qf BO rfl (ql Bo rfl (A1 AL rfl (Cp rfl (qp rfl (qm rfl ?_))))))))
    refine AF (t := 33) rfl (fun c5 => ?_) (fun c5 => ?_)
    ·have h := Ao c5 h
     refine qn rfl (qn rfl (qn rfl (qn rfl (qn rfl (qn rfl (qn rfl (qp rfl (Ae ?_))))))))
     exact Au _ h (sm [] _ _ rfl rfl)
    ·have h := An c5 h
     refine qf CU rfl (ql Hb rfl (A1 Dr rfl (qf Dc rfl (ql Ia rfl (A1 EG rfl (Cp rfl (qp rfl (Ae ?_))))))))
     exact Au _ h (sm [] _ _ rfl rfl)
  ·refine Ap rfl (fun c6 => ?_) (fun c6 => ?_)
   ·have h := Ao c6 h
    refine Ab (Aa Ac rfl (qa rfl (Ae ?_)))
    obtain rfl := sj h
    refine Am (sm [] [(4, iD 6)] [] rfl rfl) (AA ?_)
    exact ⟨⟨[_], ⟨.tmp _ _ rfl, tv⟩, rfl⟩, tv⟩
   ·have h := An c6 h
    refine Aq (Ab (Ab (Aa Ac rfl (qf BO rfl (ql Bo rfl (A1 AL rfl (qm rfl (Ae ?_))))))))
    refine AE (L := Eu N p0 p1) h (fun v7 => mk [(2, oD (.ptr 2 0)), (3, oD (.ptr 3 0)), (43, pD (.sl (p0.fb.map Ak))), (44, iD ((p0.fb.length : Int))), (45, iD v7)] [(2, .box [sC (p0.fb.map Ak), sC (p0.ff.map Ak), sC (p0.fh.map Ak), sC (p0.fc.map Ar)]), (3, .box [sC (p1.fd.map Ak), sC (p1.fa.map Ak), sC (p1.fe.map Bn)])]) (fun v8 => mk [(2, oD (.ptr 2 0)), (3, oD (.ptr 3 0))] [(2, .box [sC (p0.fb.map Ak), sC (p0.ff.map Ak), sC (p0.fh.map Ak), sC (p0.fc.map Ar)]), (3, .box [sC (p1.fd.map Ak), sC (p1.fa.map Ak), sC (p1.fe.map Bn)])]) (fun _ _ => rfl) (sm [] _ _ rfl rfl) (fun j7 n7 v7 h => ?_) (fun v8 s h hs => ?_)
    ·unfold Eu at h
     refine Ab (Aa Ac rfl (AX rfl (Ae (Ab ?_))))
     refine Ap rfl (fun c9 => ?_) (fun c9 => ?_)
     ·have h := Ao c9 h
      refine Aq (Ab (AK (Ab (Aa Ac rfl (qm rfl ?_)))))
      obtain ⟨v10, a10, b10, h⟩ := Aj h
      refine qi AL Du a10 (Ag b10) rfl (qk Cm rfl (qa rfl (qa rfl (Ae (Ab ?_)))))
      refine AO h (fun v11 => mk [(2, oD (.ptr 2 0)), (3, oD (.ptr 3 0)), (6, iD v7), (43, pD (.sl (p0.fb.map Ak))), (44, iD ((p0.fb.length : Int))), (45, iD v7), (81, bD v11)] [(2, .box [sC (p0.fb.map Ak), sC (p0.ff.map Ak), sC (p0.fh.map Ak), sC (p0.fc.map Ar)]), (3, .box [sC (p1.fd.map Ak), sC (p1.fa.map Ak), sC (p1.fe.map Bn)])]) (fun j11 h => ?_) (fun v11 h => ?_)
      ·refine Aa Ac rfl (qf CO rfl (ql Bo rfl (qm rfl ?_)))
       obtain ⟨v12, a12, b12, h⟩ := Aj h
       refine qi AL Du a12 (Ag b12) rfl (qk Cm rfl (AX rfl (qm rfl ?_)))
       refine AF (t := 56) rfl (fun c13 => ?_) (fun c13 => ?_)
       ·have h := Ao c13 h
        refine qn rfl (qn rfl (qn rfl (qn rfl (qn rfl (qn rfl (qn rfl (qp rfl (qm rfl (qn rfl (qn rfl (qn rfl (qn rfl (qn rfl (qn rfl (qp rfl (qm rfl (qn rfl (qn rfl (qn rfl (qn rfl (qn rfl (qn rfl (qn rfl (qp rfl (Ae ?_)))))))))))))))))))))))))
        exact Au _ h (sm [] _ _ rfl rfl)
       ·have h := An c13 h
        refine qf CO rfl (ql Bo rfl (qm rfl ?_))
        obtain ⟨v14, a14, b14, h⟩ := Aj h
        refine qi AL Du a14 (Ag b14) rfl (qk Cm rfl (qm rfl (Cz rfl (qp rfl (qm rfl ?_)))))
        refine AF (t := 65) rfl (fun c15 => ?_) (fun c15 => ?_)
        ·have h := Ao c15 h
         refine qn rfl (qn rfl (qn rfl (qn rfl (qn rfl (qn rfl (qp rfl (qm rfl (qn rfl (qn rfl (qn rfl (qn rfl (qn rfl (qn rfl (qn rfl (qp rfl (Ae ?_))))))))))))))))
         exact Au _ h (sm [] _ _ rfl rfl)
        ·have h := An c15 h
         refine qf BH rfl (ql Bo rfl (qm rfl ?_))
         obtain ⟨v16, a16, b16, h⟩ := Aj h
         refine qi AL Du a16 (Ag b16) rfl (qk Cm rfl (AX rfl (qp rfl (qm rfl ?_))))
         refine AF (t := 73) rfl (fun c17 => ?_) (fun c17 => ?_)
         ·have h := Ao c17 h
          refine qn rfl (qn rfl (qn rfl (qn rfl (qn rfl (qn rfl (qn rfl (qp rfl (Ae ?_))))))))
          exact Au _ h (sm [] _ _ rfl rfl)
         ·have h := An c17 h
          refine qf BH rfl (ql Bo rfl (qm rfl ?_))
          obtain ⟨v18, a18, b18, h⟩ := Aj h
          refine qi AL Du a18 (Ag b18) rfl (qk Cm rfl (qm rfl (Cz rfl (qp rfl (Ae ?_)))))
          exact Au _ h (sm [] _ _ rfl rfl)
      ·refine Ap rfl (fun c19 => ?_) (fun c19 => ?_)
       ·have h := Ao c19 h
        refine Ab (Aa Ac rfl (qa rfl (Ae ?_)))
        obtain rfl := sj h
        refine Am (sm [] [(4, iD 7)] [] rfl rfl) (AA ?_)
        exact ⟨⟨[_], ⟨.tmp _ _ rfl, tv⟩, rfl⟩, tv⟩
       ·have h := An c19 h
        refine Aq (Ab (Aa Ac rfl (qf CO rfl (ql Bo rfl (qm rfl ?_)))))
        obtain ⟨v20, a20, b20, h⟩ := Aj h
        refine qi AL Du a20 (Ag b20) rfl (qk Cm rfl (qf BH rfl (ql Bo rfl (qm rfl ?_))))
        obtain ⟨v21, a21, b21, h⟩ := Aj h
        refine qi AL Du a21 (Ag b21) rfl (qk Cm rfl (BK rfl (AB (by kernel_rfl) ?_)))
        refine Ap rfl (fun c22 => ?_) (fun c22 => ?_)
        ·have h := Ao c22 h
         refine Ab (Aa Ac rfl (qa rfl (Ae ?_)))
         obtain rfl := sj h
         refine Am (sm [] [(4, iD 1)] [] rfl rfl) (AA ?_)
         exact ⟨⟨[_], ⟨.tmp _ _ rfl, tv⟩, rfl⟩, tv⟩
        ·have h := An c22 h
         refine Aq (Aa Ac rfl (AR rfl (qm rfl (Ae ?_))))
         exact Au _ h (sm [] _ _ rfl rfl)
     ·have h := An c9 h
      refine AS ?_
      exact Au _ h (sm [] _ _ rfl rfl)
    ·refine Am hs (Ab (Ab (Aa Ac rfl (qf Dc rfl (ql Ia rfl (A1 EG rfl (qm rfl (Ae ?_))))))))
     refine AE (L := D3 N p0 p1) h (fun v23 => mk [(2, oD (.ptr 2 0)), (3, oD (.ptr 3 0)), (95, pD (.sl (p0.fc.map Ar))), (96, iD ((p0.fc.length : Int))), (97, iD v23)] [(2, .box [sC (p0.fb.map Ak), sC (p0.ff.map Ak), sC (p0.fh.map Ak), sC (p0.fc.map Ar)]), (3, .box [sC (p1.fd.map Ak), sC (p1.fa.map Ak), sC (p1.fe.map Bn)])]) (fun v24 => mk [] []) (fun _ _ => rfl) (sm [] _ _ rfl rfl) (fun j23 n23 v23 h => ?_) (fun v24 s h hs => ?_)
     ·unfold D3 at h
      refine Ab (Aa Ac rfl (AX rfl (Ae (Ab ?_))))
      refine Ap rfl (fun c25 => ?_) (fun c25 => ?_)
      ·have h := Ao c25 h
       refine Aq (Ab (AK (Ab (Aa Ac rfl (qm rfl ?_)))))
       obtain ⟨v26, a26, b26, h⟩ := Aj h
       refine qi EG EO a26 (Ag b26) rfl (qK Io EO rfl (qz LX rfl (qa rfl (qs EO rfl (Ae (Ab (Aa Ac rfl (qa rfl (qa rfl (Ae ?_))))))))))
       refine AO h (fun v27 => mk [(2, oD (.ptr 2 0)), (3, oD (.ptr 3 0)), (8, iD v23), (10, pD (.val (.int .u8 v27.1))), (11, pD (.val (.int .u8 v27.2))), (95, pD (.sl (p0.fc.map Ar))), (96, iD ((p0.fc.length : Int))), (97, iD v23)] [(2, .box [sC (p0.fb.map Ak), sC (p0.ff.map Ak), sC (p0.fh.map Ak), sC (p0.fc.map Ar)]), (3, .box [sC (p1.fd.map Ak), sC (p1.fa.map Ak), sC (p1.fe.map Bn)])]) (fun j27 h => ?_) (fun v27 h => ?_)
       ·refine Ab (Aa Ac rfl (qL Io EO rfl ?_))
        obtain ⟨v28, a28, h⟩ := bind_some h
        refine AJ [] (Ku N v26 v28 a28) Yk rfl (Ae ?_)
        refine Ap rfl (fun c29 => ?_) (fun c29 => ?_)
        ·have h := Ao c29 h
         refine Aa Ac rfl (qL A7 Az rfl (qf DI rfl (ql Cm rfl ?_)))
         obtain ⟨v30, a30, h⟩ := bind_some h
         refine AJ [] (JM N p1 v26.fi v30 a30) Vz rfl (qf BO rfl (ql Bo rfl (qf DI rfl (ql Cm rfl ?_))))
         obtain ⟨v31, a31, b31, h⟩ := Aj h
         refine qi AL Du a31 (Ag b31) rfl (qk Cm rfl ?_)
         obtain ⟨c32, h⟩ := AU h
         refine IC rfl c32 (Bm rfl (qa rfl (qa rfl (AB (by kernel_rfl) ?_))))
         exact Au _ h (sm [] _ _ rfl rfl)
        ·have h := An c29 h
         refine Aq ?_
         exact Au _ h (sm [] _ _ rfl rfl)
       ·refine AO h (fun v33 => mk [(2, oD (.ptr 2 0)), (3, oD (.ptr 3 0)), (95, pD (.sl (p0.fc.map Ar))), (96, iD ((p0.fc.length : Int))), (97, iD v23), (133, bD v33)] [(2, .box [sC (p0.fb.map Ak), sC (p0.ff.map Ak), sC (p0.fh.map Ak), sC (p0.fc.map Ar)]), (3, .box [sC (p1.fd.map Ak), sC (p1.fa.map Ak), sC (p1.fe.map Bn)])]) (fun j33 h => ?_) (fun v33 h => ?_)
        ·refine Aa Ac rfl (qm rfl (qf CU rfl (ql Hb rfl (qm rfl ?_))))
         obtain ⟨v34, a34, b34, h⟩ := Aj h
         refine qi Dr F5 a34 (Ag b34) rfl (qk Ky rfl (Jp rfl (Cp rfl (qm rfl ?_))))
         refine AF (t := 124) rfl (fun c35 => ?_) (fun c35 => ?_)
         ·have h := Ao c35 h
          refine qn rfl (qn rfl (qn rfl (qn rfl (qn rfl (qn rfl (qn rfl (qn rfl (qp rfl (Ae ?_)))))))))
          exact Au _ h (sm [] _ _ rfl rfl)
         ·have h := An c35 h
          refine qf CU rfl (ql Hb rfl (qm rfl ?_))
          obtain ⟨v36, a36, b36, h⟩ := Aj h
          refine qi Dr F5 a36 (Ag b36) rfl (qk Ky rfl (qm rfl (Jp rfl (Cp rfl (qp rfl (Ae ?_))))))
          exact Au _ h (sm [] _ _ rfl rfl)
        ·refine Ap rfl (fun c37 => ?_) (fun c37 => ?_)
         ·have h := Ao c37 h
          refine Ab (Aa Ac rfl (qa rfl (Ae ?_)))
          obtain rfl := sj h
          refine Am (sm [] [(4, iD 1)] [] rfl rfl) (AA ?_)
          exact ⟨⟨[_], ⟨.tmp _ _ rfl, tv⟩, rfl⟩, tv⟩
         ·have h := An c37 h
          refine Aq (Aa Ac rfl (AR rfl (qm rfl (Ae ?_))))
          exact Au _ h (sm [] _ _ rfl rfl)
      ·have h := An c25 h
       refine AS ?_
       exact Au _ h (sm [] _ _ rfl rfl)
     ·refine Am hs (Ab (Aa Ac rfl (qa rfl (Ae ?_))))
      obtain rfl := sj h
      refine Am (sm [] [(4, iD 0)] [] rfl rfl) (AA ?_)
      exact ⟨⟨[_], ⟨.tmp _ _ rfl, tv⟩, rfl⟩, tv⟩
theorem EK (N : Nat) (p0 : List Int) (r : (List Int)) (h : BM N p0 = some r) : AD Tryz.prog 67 [pD (.sl (p0.map Bn))] [(1, r.map Bn)] (oD (.own 0)) := by
 unfold BM at h
 refine Av (n := 8) (rs := [.tmp 2]) Tryz.func67 rfl rfl rfl (A6 rfl) (A6 rfl) rfl fun w0 S0 => ?_
 refine Ab (Aa Ac rfl (qa rfl (Ae (Ab (Ab (Aa Ac rfl (qm rfl ?_)))))))
 refine TT (.p rfl) rfl Dr ?_
 refine Ae ?_
 refine TF rfl (fun c2 => ?_) ?_
 ·have c2 := List.map_eq_nil_iff.1 c2
  rw [c2] at h
  have h : (some (([] : List Int))) = some r := h
  refine Ab (Aa Ac rfl (qa rfl (Ae ?_)))
  obtain rfl := sj h
  refine Am ((Bu 2 2001 1 rfl rfl rfl).trans (sm [(1000, 2001)] [(2, oD (.own 1000))] [(1000, .vec 1 ((([] : List Int)).map Bn))] rfl rfl)) (AA ?_)
  exact ⟨⟨[_], ⟨.tmp _ _ rfl, tv⟩, rfl⟩, ⟨rfl, tv⟩⟩
 ·refine Aq (Ab (Aa Ac rfl (DY Dr F5 Ob rfl (qm rfl ?_))))
  obtain ⟨c1, h⟩ := AU h
  refine JN (f := Bn) Dr Dr F5 RK Ob (fun _ => rfl) c1 rfl (qa rfl (Ae ?_))
  obtain rfl := sj h
  refine Am (sm [(1000, 7)] [(2, oD (.own 1000))] [(1000, .vec 1 (((([] : List Int)) ++ p0).map Bn))] rfl rfl) (AA ?_)
  exact ⟨⟨[_], ⟨.tmp _ _ rfl, tv⟩, rfl⟩, ⟨rfl, tv⟩⟩
theorem Qe (N : Nat) (p0 : Ah) (p1 : Af) (r : (List Af) × Int) (h : FO N p0 p1 = some r) : AD Tryz.prog 99 [.e (.agg [sC (p0.fb.map Ak), sC (p0.ff.map Ak), sC (p0.fh.map Ak), sC (p0.fc.map Ar)]), .e (.agg [sC (p1.fd.map Ak), sC (p1.fa.map Ak), sC (p1.fe.map Bn)])] [(3, r.1.map Ai)] (.tup [.one (.own 0), .one (iC r.2)]) := by
 unfold FO at h
 refine Av (n := 75) (rs := [.tmp 4, .tmp 5]) Tryz.func99 rfl rfl rfl (A6 rfl) (A6 rfl) rfl fun w0 S0 => ?_
 refine Ab (Aa Ac rfl (qb rfl (qb rfl (qa rfl (qa rfl (Ae (Ab (Ab (Aa Ac rfl (qL DL Di rfl (qL A7 Az rfl ?_)))))))))))
 obtain ⟨v1, a1, h⟩ := bind_some h
 refine AJ [] (Iw N p0 p1 v1 a1) Vi rfl (qa rfl (Ae (Ab (Aa Ac rfl (qm rfl (Cp rfl (Ae ?_)))))))
 refine Ap rfl (fun c2 => ?_) (fun c2 => ?_)
 ·have h := Ao c2 h
  refine Ab (Aa Ac rfl (qm rfl (qa rfl (qa rfl (Ae ?_)))))
  obtain rfl := sj h
  refine Am ((Bu 4 2001 3 rfl rfl rfl).trans (sm [(1000, 2001)] [(4, oD (.own 1000)), (5, iD v1)] [(1000, .vec 3 ((([] : List Af)).map Ai))] rfl rfl)) (AA ?_)
  exact ⟨⟨[_, _], ⟨.tmp _ _ rfl, ⟨.tmp _ _ rfl, tv⟩⟩, rfl⟩, ⟨rfl, tv⟩⟩
 ·have h := An c2 h
  refine Aq (Ab (Aa Ac rfl (qa rfl (Ae (Ab (Ab (Aa Ac rfl (qf BH rfl (ql Bo rfl (A1 AL rfl (qm rfl (Ae ?_))))))))))))
  refine AE (L := Ec N p1) h (fun v3 => mk [(3, oD (.ptr 3 0)), (7, oD (.own 2002)), (22, pD (.sl (p1.fa.map Ak))), (23, iD ((p1.fa.length : Int))), (24, iD v3.2)] [(3, .box [sC (p1.fd.map Ak), sC (p1.fa.map Ak), sC (p1.fe.map Bn)]), (2002, .vec 1 (v3.1.map Ak))]) (fun v4 => mk [(3, oD (.ptr 3 0)), (7, oD (.own 2003))] [(3, .box [sC (p1.fd.map Ak), sC (p1.fa.map Ak), sC (p1.fe.map Bn)]), (2003, .vec 1 (v4.map Ak))]) (fun _ _ => rfl) ((Bu 7 2005 1 rfl rfl rfl).trans (sm [(2002, 2005)] _ _ rfl rfl)) (fun j3 n3 v3 h => ?_) (fun v4 s h hs => ?_)
  ·unfold Ec at h
   refine Ab (Aa Ac rfl (AX rfl (Ae (Ab ?_))))
   refine Ap rfl (fun c5 => ?_) (fun c5 => ?_)
   ·have h := Ao c5 h
    refine Aq ?_
    refine AO h (fun v6 => mk [(3, oD (.ptr 3 0)), (7, oD (.own 2004)), (22, pD (.sl (p1.fa.map Ak))), (23, iD ((p1.fa.length : Int))), (24, iD v3.2)] [(3, .box [sC (p1.fd.map Ak), sC (p1.fa.map Ak), sC (p1.fe.map Bn)]), (2004, .vec 1 (v6.map Ak))]) (fun j6 h => ?_) (fun v6 h => ?_)
    ·refine AK (Ab (Aa Ac rfl (qm rfl ?_)))
     obtain ⟨v7, a7, b7, h⟩ := Aj h
     refine qi AL Du a7 (Ag b7) rfl (qk Cm rfl (qa rfl (qa rfl (Ae (Ab (Aa Ac rfl (qm rfl (Cz rfl (Ae ?_)))))))))
     refine Ap rfl (fun c8 => ?_) (fun c8 => ?_)
     ·have h := Ao c8 h
      refine Aa Ac rfl (qm rfl (qm rfl (DY AL Du KI rfl ?_)))
      obtain ⟨c9, h⟩ := AU h
      refine DO (f := Ak) AL AL Du M4 KI c9 rfl (qa rfl (Ae ?_))
      exact Au _ h (sm [(2004, 34)] _ _ rfl rfl)
     ·have h := An c8 h
      refine Aq ?_
      exact Au _ h (sm [(2004, 2002)] _ _ rfl rfl)
    ·refine Aa Ac rfl (AR rfl (qm rfl (Ae ?_)))
     exact Au _ h (sm [(2002, 2004)] _ _ rfl rfl)
   ·have h := An c5 h
    refine AS ?_
    exact Au _ h (sm [(2003, 2002)] _ _ rfl rfl)
  ·refine Am hs (Ab (Aa Ac rfl (qa rfl (Ae (Ab (Ab (Aa Ac rfl (qm rfl (EN AL rfl ?_)))))))))
   obtain ⟨c10, h⟩ := AU h
   refine IC rfl c10 (qm rfl (Ae ?_))
   refine AE (L := Dk N p1 v4) h (fun v11 => mk [(3, oD (.ptr 3 0)), (7, oD (.own 2006)), (10, oD (.own 2007)), (38, iD ((CJ .i64 1 ((v4.length : Int))))), (39, iD v11.2)] [(3, .box [sC (p1.fd.map Ak), sC (p1.fa.map Ak), sC (p1.fe.map Bn)]), (2006, .vec 1 (v4.map Ak)), (2007, .vec 3 (v11.1.map Ai))]) (fun v12 => mk [(10, oD (.own 2008))] [(2008, .vec 3 (v12.map Ai))]) (fun _ _ => rfl) ((Bu 10 2027 3 rfl rfl rfl).trans (sm [(2006, 2003), (2007, 2027)] _ _ rfl rfl)) (fun j11 n11 v11 h => ?_) (fun v12 s h hs => ?_)
   ·unfold Dk at h
    refine Ab (Aa Ac rfl (AX rfl (Ae (Ab ?_))))
    refine Ap rfl (fun c13 => ?_) (fun c13 => ?_)
    ·have h := Ao c13 h
     refine Aq (Ab (AK (Ab (Aa Ac rfl (qm rfl (qa rfl (Ae (Ab (Aa Ac rfl (qf CO rfl (ql Bo rfl ?_)))))))))))
     obtain ⟨v14, a14, h⟩ := bind_some h
     refine AJ [2009] (Db N p1.fd v14 a14) Sx rfl (qf BH rfl (ql Bo rfl ?_))
     obtain ⟨v15, a15, h⟩ := bind_some h
     refine AJ [2010] (Db N p1.fa v15 a15) Sx rfl (qf CU rfl (ql Hb rfl ?_))
     obtain ⟨v16, a16, h⟩ := bind_some h
     refine AJ [2011] (EK N p1.fe v16 a16) Yl rfl (Bz Cw HB rfl (qz Cw rfl (qs Az rfl (AB (by kernel_rfl) (Ab (Ab (Aa Ac rfl (qm rfl (EN AL rfl (qm rfl (Ae ?_)))))))))))
     refine AE (L := Dn N v4 v11) h (fun v17 => mk [(3, oD (.ptr 3 0)), (7, oD (.own 2015)), (10, oD (.own 2016)), (11, iD v11.2), (12, oD (.ptr 12 0)), (38, iD ((CJ .i64 1 ((v4.length : Int))))), (39, iD v11.2), (52, oD (.own 2015)), (53, iD ((v4.length : Int))), (54, iD v17.2)] [(3, .box [sC (p1.fd.map Ak), sC (p1.fa.map Ak), sC (p1.fe.map Bn)]), (12, .box [.own 2012, .own 2013, .own 2014]), (2012, .vec 1 (v14.map Ak)), (2013, .vec 1 (v17.1.map Ak)), (2014, .vec 1 (v16.map Bn)), (2015, .vec 1 (v4.map Ak)), (2016, .vec 3 (v11.1.map Ai))]) (fun v18 => mk [(3, oD (.ptr 3 0)), (7, oD (.own 2020)), (10, oD (.own 2021)), (12, oD (.ptr 12 0)), (38, iD ((CJ .i64 1 ((v4.length : Int))))), (39, iD v11.2)] [(3, .box [sC (p1.fd.map Ak), sC (p1.fa.map Ak), sC (p1.fe.map Bn)]), (12, .box [.own 2017, .own 2018, .own 2019]), (2017, .vec 1 (v14.map Ak)), (2018, .vec 1 (v18.map Ak)), (2019, .vec 1 (v16.map Bn)), (2020, .vec 1 (v4.map Ak)), (2021, .vec 3 (v11.1.map Ai))]) (fun _ _ => rfl) (sm [(2012, 2009), (2013, 2010), (2014, 2011), (2015, 2006), (2016, 2007)] _ _ rfl rfl) (fun j17 n17 v17 h => ?_) (fun v18 s h hs => ?_)
     ·unfold Dn at h
      refine Ab (Aa Ac rfl (AX rfl (Ae (Ab ?_))))
      refine Ap rfl (fun c19 => ?_) (fun c19 => ?_)
      ·have h := Ao c19 h
       refine Aq ?_
       refine AO h (fun v20 => mk [(3, oD (.ptr 3 0)), (7, oD (.own 2025)), (10, oD (.own 2026)), (11, iD v11.2), (12, oD (.ptr 12 0)), (38, iD ((CJ .i64 1 ((v4.length : Int))))), (39, iD v11.2), (52, oD (.own 2025)), (53, iD ((v4.length : Int))), (54, iD v17.2)] [(3, .box [sC (p1.fd.map Ak), sC (p1.fa.map Ak), sC (p1.fe.map Bn)]), (12, .box [.own 2022, .own 2023, .own 2024]), (2022, .vec 1 (v14.map Ak)), (2023, .vec 1 (v20.map Ak)), (2024, .vec 1 (v16.map Bn)), (2025, .vec 1 (v4.map Ak)), (2026, .vec 3 (v11.1.map Ai))]) (fun j20 h => ?_) (fun v20 h => ?_)
       ·refine AK (Ab (Aa Ac rfl (qm rfl ?_)))
        obtain ⟨v21, a21, b21, h⟩ := Aj h
        refine qI AL Du a21 (Ag b21) rfl (qj Cm (Ag b21) rfl (qa rfl (qa rfl (Ae (Ab (Aa Ac rfl (qm rfl (qm rfl ?_))))))))
        obtain ⟨c22, h⟩ := AU h
        refine HI rfl c22 (LF rfl (BK rfl (Ae ?_)))
        refine Ap rfl (fun c23 => ?_) (fun c23 => ?_)
        ·have h := Ao c23 h
         refine Aa Ac rfl (qf BH rfl (ql Bo rfl (qm rfl ?_)))
         obtain ⟨v24, a24, b24, h⟩ := Aj h
         refine qI AL Du a24 (Ag b24) rfl ?_
         refine AY rfl rfl rfl rfl (Ag b24) rfl Du rfl (A6 rfl) (AZ Ak v17.1 _ ((-1))) ?_
         refine Ae ?_
         exact Au _ h (sm [(2022, 2012), (2023, 2013), (2024, 2014), (2025, 2015), (2026, 2016)] _ _ rfl rfl)
        ·have h := An c23 h
         refine Aq ?_
         exact Au _ h (sm [(2022, 2012), (2023, 2013), (2024, 2014), (2025, 2015), (2026, 2016)] _ _ rfl rfl)
       ·refine Aa Ac rfl (AR rfl (qm rfl (Ae ?_)))
        exact Au _ h (sm [(2012, 2022), (2013, 2023), (2014, 2024), (2015, 2025), (2016, 2026)] _ _ rfl rfl)
      ·have h := An c19 h
       refine AS ?_
       exact Au _ h (sm [(2017, 2012), (2018, 2013), (2019, 2014), (2020, 2015), (2021, 2016)] _ _ rfl rfl)
     ·refine Am hs (Aa Ac rfl (qm rfl (qL A7 Az rfl (DT (Bk 2017 _ _ rfl rfl) (DT (Bk 2018 _ _ rfl rfl) (DT (Bk 2019 _ _ rfl rfl) (DY AV Az Cw rfl ?_)))))))
      obtain ⟨c25, h⟩ := AU h
      refine DO (f := Ai) AV AV Az Ng Cw c25 rfl (qa rfl (Ae (Aa Ac rfl (AR rfl (qm rfl (Ae ?_))))))
      exact Au _ h (sm [(2006, 2020), (2007, 72)] _ _ rfl rfl)
    ·have h := An c13 h
     refine AS ?_
     exact Au _ h (sm [(2008, 2007)] _ _ rfl rfl)
   ·refine Am hs (Ab (Aa Ac rfl (qm rfl (qa rfl (qa rfl (Ae ?_))))))
    obtain rfl := sj h
    refine Am (sm [(1000, 2008)] [(4, oD (.own 1000)), (5, iD 0)] [(1000, .vec 3 (v12.map Ai))] rfl rfl) (AA ?_)
    exact ⟨⟨[_, _], ⟨.tmp _ _ rfl, ⟨.tmp _ _ rfl, tv⟩⟩, rfl⟩, ⟨rfl, tv⟩⟩
theorem NP (N : Nat) (p0 : Ah) (p1 : Af) (r : (List Al)) (h : FV N p0 p1 = some r) : AD Tryz.prog 100 [.e (.agg [sC (p0.fb.map Ak), sC (p0.ff.map Ak), sC (p0.fh.map Ak), sC (p0.fc.map Ar)]), .e (.agg [sC (p1.fd.map Ak), sC (p1.fa.map Ak), sC (p1.fe.map Bn)])] [(3, r.map Ad)] (oD (.own 0)) := by
 unfold FV at h
 refine Av (n := 98) (rs := [.tmp 4]) Tryz.func100 rfl rfl rfl (A6 rfl) (A6 rfl) rfl fun w0 S0 => ?_
 refine Ab (Aa Ac rfl (qb rfl (qb rfl (qa rfl (Ae (Ab (Aa Ac rfl (qa rfl (Ae (Ab (Ab (Aa Ac rfl (qf Dc rfl (ql Ia rfl (A1 EG rfl (qm rfl (Ae ?_)))))))))))))))))
 refine AE (L := DN N p0 p1) h (fun v1 => mk [(3, oD (.ptr 3 0)), (5, oD (.own 2001)), (15, pD (.sl (p0.fc.map Ar))), (16, iD ((p0.fc.length : Int))), (17, iD v1.2)] [(3, .box [sC (p1.fd.map Ak), sC (p1.fa.map Ak), sC (p1.fe.map Bn)]), (2001, .vec 3 (v1.1.map Ad))]) (fun v2 => mk [(5, oD (.own 2002))] [(2002, .vec 3 (v2.map Ad))]) (fun _ _ => rfl) ((Bu 5 2013 3 rfl rfl rfl).trans (sm [(2001, 2013)] _ _ rfl rfl)) (fun j1 n1 v1 h => ?_) (fun v2 s h hs => ?_)
 ·unfold DN at h
  refine Ab (Aa Ac rfl (AX rfl (Ae (Ab ?_))))
  refine Ap rfl (fun c3 => ?_) (fun c3 => ?_)
  ·have h := Ao c3 h
   refine Aq (Ab (AK (Ab (Aa Ac rfl (qm rfl ?_)))))
   obtain ⟨v4, a4, b4, h⟩ := Aj h
   refine qi EG EO a4 (Ag b4) rfl (qK Io EO rfl (qz LX rfl (qa rfl (qs EO rfl (Ae (Ab (Aa Ac rfl (qL A7 Az rfl (qf DI rfl (ql Cm rfl ?_))))))))))
   obtain ⟨v5, a5, h⟩ := bind_some h
   refine AJ [] (JM N p1 v4.fi v5 a5) Vz rfl (qL A7 Az rfl (qf IV rfl (ql Cm rfl ?_)))
   obtain ⟨v6, a6, h⟩ := bind_some h
   refine AJ [] (JM N p1 v4.fk v6 a6) Vz rfl (qa rfl (qa rfl (AB (by kernel_rfl) ?_)))
   refine AO h (fun v7 => mk [(3, oD (.ptr 3 0)), (5, oD (.own 2003)), (6, iD v1.2), (7, oD (.ptr 7 0)), (8, pD (.val (.int .u8 v7))), (9, pD (.val (.int .u8 v6))), (15, pD (.sl (p0.fc.map Ar))), (16, iD ((p0.fc.length : Int))), (17, iD v1.2)] [(3, .box [sC (p1.fd.map Ak), sC (p1.fa.map Ak), sC (p1.fe.map Bn)]), (7, .box [iC v4.fg, iC v4.fi, iC v4.fk, .pure (.val (.bool v4.fp)), sC (v4.fq.map (Fn eB)), sC (v4.fm.map (Fn eB))]), (2003, .vec 3 (v1.1.map Ad))]) (fun j7 h => ?_) (fun v7 h => ?_)
   ·refine Ab (Aa Ac rfl (qL Io EO rfl ?_))
    obtain ⟨v8, a8, h⟩ := bind_some h
    refine AJ [] (Ku N v4 v8 a8) Yk rfl (Ae ?_)
    refine Ap rfl (fun c9 => ?_) (fun c9 => ?_)
    ·have h := Ao c9 h
     refine Aa Ac rfl (qf CU rfl (ql Hb rfl (qm rfl ?_)))
     obtain ⟨v10, a10, b10, h⟩ := Aj h
     refine qi Dr F5 a10 (Ag b10) rfl (qk Ky rfl (qa rfl (Ae ?_)))
     exact Au _ h (sm [(2003, 2001)] _ _ rfl rfl)
    ·have h := An c9 h
     refine Aq ?_
     exact Au _ h (sm [(2003, 2001)] _ _ rfl rfl)
   ·refine Ab (Aa Ac rfl (qf Kx rfl (ql KL rfl (A1 G6 rfl (qm rfl (Ae ?_))))))
    refine AE (L := CE N v1 v4 v6 v7) h (fun v11 => mk [(3, oD (.ptr 3 0)), (5, oD (.own 2004)), (6, iD v1.2), (7, oD (.ptr 7 0)), (8, pD (.val (.int .u8 v7))), (9, pD (.val (.int .u8 v6))), (15, pD (.sl (p0.fc.map Ar))), (16, iD ((p0.fc.length : Int))), (17, iD v1.2), (39, iD ((v4.fq.length : Int))), (40, iD v11.2)] [(3, .box [sC (p1.fd.map Ak), sC (p1.fa.map Ak), sC (p1.fe.map Bn)]), (7, .box [iC v4.fg, iC v4.fi, iC v4.fk, .pure (.val (.bool v4.fp)), sC (v4.fq.map (Fn eB)), sC (v4.fm.map (Fn eB))]), (2004, .vec 3 (v11.1.map Ad))]) (fun v12 => mk [(3, oD (.ptr 3 0)), (5, oD (.own 2005)), (15, pD (.sl (p0.fc.map Ar))), (16, iD ((p0.fc.length : Int))), (17, iD v1.2)] [(3, .box [sC (p1.fd.map Ak), sC (p1.fa.map Ak), sC (p1.fe.map Bn)]), (2005, .vec 3 (v12.map Ad))]) (fun _ _ => rfl) (sm [(2004, 2003)] _ _ rfl rfl) (fun j11 n11 v11 h => ?_) (fun v12 s h hs => ?_)
    ·unfold CE at h
     refine Ab (Aa Ac rfl (AX rfl (Ae (Ab ?_))))
     refine Ap rfl (fun c13 => ?_) (fun c13 => ?_)
     ·have h := Ao c13 h
      refine Aq ?_
      refine AO h (fun v14 => mk [(3, oD (.ptr 3 0)), (5, oD (.own 2006)), (6, iD v1.2), (7, oD (.ptr 7 0)), (8, pD (.val (.int .u8 v7))), (9, pD (.val (.int .u8 v6))), (15, pD (.sl (p0.fc.map Ar))), (16, iD ((p0.fc.length : Int))), (17, iD v1.2), (39, iD ((v4.fq.length : Int))), (40, iD v11.2)] [(3, .box [sC (p1.fd.map Ak), sC (p1.fa.map Ak), sC (p1.fe.map Bn)]), (7, .box [iC v4.fg, iC v4.fi, iC v4.fk, .pure (.val (.bool v4.fp)), sC (v4.fq.map (Fn eB)), sC (v4.fm.map (Fn eB))]), (2006, .vec 3 (v14.map Ad))]) (fun j14 h => ?_) (fun v14 h => ?_)
      ·refine AK (Ab (Aa Ac rfl (qm rfl (qa rfl (Ae (Ab (Ab (Aa Ac rfl (qm rfl (qm rfl ?_))))))))))
       obtain ⟨c15, h⟩ := AU h
       refine HI rfl c15 (LF rfl (BK rfl (Ae ?_)))
       refine Ap rfl (fun c16 => ?_) (fun c16 => ?_)
       ·have h := Ao c16 h
        refine AS ?_
        exact Au _ h (sm [(2006, 2004)] _ _ rfl rfl)
       ·have h := An c16 h
        refine Aq (Ab (Aa Ac rfl (qa rfl (Ae (Ab (Ab (Aa Ac rfl (qf Kx rfl (ql KL rfl (qm rfl ?_))))))))))
        obtain ⟨v17, a17, b17, h⟩ := Aj h
        refine qi G6 NO a17 (Ag b17) rfl (qk QM rfl (A1 Hp rfl (qm rfl (Ae ?_))))
        refine AE (L := Ce N v1 v4 v6 v11 v17) h (fun v18 => mk [(3, oD (.ptr 3 0)), (5, oD (.own 2007)), (6, iD v1.2), (7, oD (.ptr 7 0)), (8, pD (.val (.int .u8 v7))), (9, pD (.val (.int .u8 v6))), (10, iD v11.2), (11, bD v18.2.1), (15, pD (.sl (p0.fc.map Ar))), (16, iD ((p0.fc.length : Int))), (17, iD v1.2), (39, iD ((v4.fq.length : Int))), (40, iD v11.2), (52, pD (.sl (v17.map eB))), (53, iD ((v17.length : Int))), (54, iD v18.2.2)] [(3, .box [sC (p1.fd.map Ak), sC (p1.fa.map Ak), sC (p1.fe.map Bn)]), (7, .box [iC v4.fg, iC v4.fi, iC v4.fk, .pure (.val (.bool v4.fp)), sC (v4.fq.map (Fn eB)), sC (v4.fm.map (Fn eB))]), (2007, .vec 3 (v18.1.map Ad))]) (fun v19 => mk [(3, oD (.ptr 3 0)), (5, oD (.own 2008)), (6, iD v1.2), (7, oD (.ptr 7 0)), (8, pD (.val (.int .u8 v7))), (9, pD (.val (.int .u8 v6))), (10, iD v11.2), (11, bD v19.2), (15, pD (.sl (p0.fc.map Ar))), (16, iD ((p0.fc.length : Int))), (17, iD v1.2), (39, iD ((v4.fq.length : Int))), (40, iD v11.2)] [(3, .box [sC (p1.fd.map Ak), sC (p1.fa.map Ak), sC (p1.fe.map Bn)]), (7, .box [iC v4.fg, iC v4.fi, iC v4.fk, .pure (.val (.bool v4.fp)), sC (v4.fq.map (Fn eB)), sC (v4.fm.map (Fn eB))]), (2008, .vec 3 (v19.1.map Ad))]) (fun _ _ => rfl) (sm [(2007, 2004)] _ _ rfl rfl) (fun j18 n18 v18 h => ?_) (fun v19 s h hs => ?_)
        ·unfold Ce at h
         refine Ab (Aa Ac rfl (AX rfl (Ae (Ab ?_))))
         refine Ap rfl (fun c20 => ?_) (fun c20 => ?_)
         ·have h := Ao c20 h
          refine Aq ?_
          refine AO h (fun v21 => mk [(3, oD (.ptr 3 0)), (5, oD (.own 2009)), (6, iD v1.2), (7, oD (.ptr 7 0)), (8, pD (.val (.int .u8 v7))), (9, pD (.val (.int .u8 v6))), (10, iD v11.2), (11, bD v21.2), (15, pD (.sl (p0.fc.map Ar))), (16, iD ((p0.fc.length : Int))), (17, iD v1.2), (39, iD ((v4.fq.length : Int))), (40, iD v11.2), (52, pD (.sl (v17.map eB))), (53, iD ((v17.length : Int))), (54, iD v18.2.2)] [(3, .box [sC (p1.fd.map Ak), sC (p1.fa.map Ak), sC (p1.fe.map Bn)]), (7, .box [iC v4.fg, iC v4.fi, iC v4.fk, .pure (.val (.bool v4.fp)), sC (v4.fq.map (Fn eB)), sC (v4.fm.map (Fn eB))]), (2009, .vec 3 (v21.1.map Ad))]) (fun j21 h => ?_) (fun v21 h => ?_)
          ·refine AK (Ab (Aa Ac rfl (qm rfl ?_)))
           obtain ⟨v22, a22, b22, h⟩ := Aj h
           refine qi Hp Sm a22 (Ag b22) rfl (qk TI rfl (qa rfl (qa rfl (Ae (Ab (Ab (Aa Ac rfl (qm rfl (qm rfl ?_)))))))))
           obtain ⟨c23, h⟩ := AU h
           refine HI rfl c23 (LF rfl (BK rfl (Ae ?_)))
           refine Ap rfl (fun c24 => ?_) (fun c24 => ?_)
           ·have h := Ao c24 h
            refine AS ?_
            exact Au _ h (sm [(2009, 2007)] _ _ rfl rfl)
           ·have h := An c24 h
            refine Aq ?_
            refine AO h (fun v25 => mk [(3, oD (.ptr 3 0)), (5, oD (.own 2010)), (6, iD v1.2), (7, oD (.ptr 7 0)), (8, pD (.val (.int .u8 v7))), (9, pD (.val (.int .u8 v6))), (10, iD v11.2), (11, bD v25), (12, iD v18.2.2), (13, bD v22), (15, pD (.sl (p0.fc.map Ar))), (16, iD ((p0.fc.length : Int))), (17, iD v1.2), (39, iD ((v4.fq.length : Int))), (40, iD v11.2), (52, pD (.sl (v17.map eB))), (53, iD ((v17.length : Int))), (54, iD v18.2.2)] [(3, .box [sC (p1.fd.map Ak), sC (p1.fa.map Ak), sC (p1.fe.map Bn)]), (7, .box [iC v4.fg, iC v4.fi, iC v4.fk, .pure (.val (.bool v4.fp)), sC (v4.fq.map (Fn eB)), sC (v4.fm.map (Fn eB))]), (2010, .vec 3 (v18.1.map Ad))]) (fun j25 h => ?_) (fun v25 h => ?_)
            ·refine Aa Ac rfl (qm rfl (qm rfl ?_))
             refine AF (t := 65) rfl (fun c26 => ?_) (fun c26 => ?_)
             ·have h := Ao c26 h
              refine qn rfl (qp rfl (qa rfl (Ae ?_)))
              exact Au _ h (sm [(2010, 2007)] _ _ rfl rfl)
             ·have h := An c26 h
              refine qm rfl (qp rfl (qa rfl (Ae ?_)))
              exact Au _ h (sm [(2010, 2007)] _ _ rfl rfl)
            ·refine AO h (fun v27 => mk [(3, oD (.ptr 3 0)), (5, oD (.own 2011)), (6, iD v1.2), (7, oD (.ptr 7 0)), (8, pD (.val (.int .u8 v7))), (9, pD (.val (.int .u8 v6))), (10, iD v11.2), (11, bD v25), (12, iD v18.2.2), (15, pD (.sl (p0.fc.map Ar))), (16, iD ((p0.fc.length : Int))), (17, iD v1.2), (39, iD ((v4.fq.length : Int))), (40, iD v11.2), (52, pD (.sl (v17.map eB))), (53, iD ((v17.length : Int))), (54, iD v18.2.2), (74, bD v27)] [(3, .box [sC (p1.fd.map Ak), sC (p1.fa.map Ak), sC (p1.fe.map Bn)]), (7, .box [iC v4.fg, iC v4.fi, iC v4.fk, .pure (.val (.bool v4.fp)), sC (v4.fq.map (Fn eB)), sC (v4.fm.map (Fn eB))]), (2011, .vec 3 (v18.1.map Ad))]) (fun j27 h => ?_) (fun v27 h => ?_)
             ·refine Aa Ac rfl (qm rfl (BW rfl (qm rfl ?_)))
              refine AF (t := 70) rfl (fun c28 => ?_) (fun c28 => ?_)
              ·have h := Ao c28 h
               refine qf JJ rfl (ql TI rfl (BW rfl (qp rfl (Ae ?_))))
               exact Au _ h (sm [(2011, 2010)] _ _ rfl rfl)
              ·have h := An c28 h
               refine qn rfl (qn rfl (qn rfl (qp rfl (Ae ?_))))
               exact Au _ h (sm [(2011, 2010)] _ _ rfl rfl)
             ·refine Ap rfl (fun c29 => ?_) (fun c29 => ?_)
              ·have h := Ao c29 h
               refine Aa Ac rfl (qm rfl (qm rfl (qm rfl (qm rfl (Bz Jk SN rfl (DY Ba A2 Jk rfl ?_))))))
               obtain ⟨c30, h⟩ := AU h
               refine DO (f := Ad) Ba Ba A2 R2 Jk c30 rfl (qa rfl (Ae ?_))
               exact Au _ h (sm [(2009, 81)] _ _ rfl rfl)
              ·have h := An c29 h
               refine Aq ?_
               exact Au _ h (sm [(2009, 2011)] _ _ rfl rfl)
          ·refine Aa Ac rfl (AR rfl (qm rfl (Ae ?_)))
           exact Au _ h (sm [(2007, 2009)] _ _ rfl rfl)
         ·have h := An c20 h
          refine AS ?_
          exact Au _ h (sm [(2008, 2007)] _ _ rfl rfl)
        ·refine Am hs ?_
         refine AO h (fun v31 => mk [(3, oD (.ptr 3 0)), (5, oD (.own 2012)), (6, iD v1.2), (7, oD (.ptr 7 0)), (8, pD (.val (.int .u8 v7))), (9, pD (.val (.int .u8 v6))), (10, iD v11.2), (15, pD (.sl (p0.fc.map Ar))), (16, iD ((p0.fc.length : Int))), (17, iD v1.2), (39, iD ((v4.fq.length : Int))), (40, iD v11.2), (88, bD v31)] [(3, .box [sC (p1.fd.map Ak), sC (p1.fa.map Ak), sC (p1.fe.map Bn)]), (7, .box [iC v4.fg, iC v4.fi, iC v4.fk, .pure (.val (.bool v4.fp)), sC (v4.fq.map (Fn eB)), sC (v4.fm.map (Fn eB))]), (2012, .vec 3 (v19.1.map Ad))]) (fun j31 h => ?_) (fun v31 h => ?_)
         ·refine Aa Ac rfl (qf JJ rfl (ql TI rfl (qm rfl ?_)))
          refine AF (t := 85) rfl (fun c32 => ?_) (fun c32 => ?_)
          ·have h := Ao c32 h
           refine qm rfl (BW rfl (qp rfl (Ae ?_)))
           exact Au _ h (sm [(2012, 2008)] _ _ rfl rfl)
          ·have h := An c32 h
           refine qn rfl (qn rfl (qp rfl (Ae ?_)))
           exact Au _ h (sm [(2012, 2008)] _ _ rfl rfl)
         ·refine Ap rfl (fun c33 => ?_) (fun c33 => ?_)
          ·have h := Ao c33 h
           refine Aa Ac rfl (qm rfl (qm rfl (qm rfl (Bz Jk SN rfl (DY Ba A2 Jk rfl ?_)))))
           obtain ⟨c34, h⟩ := AU h
           refine DO (f := Ad) Ba Ba A2 R2 Jk c34 rfl (qa rfl (Ae ?_))
           exact Au _ h (sm [(2006, 94)] _ _ rfl rfl)
          ·have h := An c33 h
           refine Aq ?_
           exact Au _ h (sm [(2006, 2012)] _ _ rfl rfl)
      ·refine Aa Ac rfl (AR rfl (qm rfl (Ae ?_)))
       exact Au _ h (sm [(2004, 2006)] _ _ rfl rfl)
     ·have h := An c13 h
      refine AS ?_
      exact Au _ h (sm [(2005, 2004)] _ _ rfl rfl)
    ·refine Am hs (Aa Ac rfl (AR rfl (qm rfl (Ae ?_))))
     exact Au _ h (sm [(2001, 2005)] _ _ rfl rfl)
  ·have h := An c3 h
   refine AS ?_
   exact Au _ h (sm [(2002, 2001)] _ _ rfl rfl)
 ·refine Am hs (Ab (Aa Ac rfl (qm rfl (qa rfl (Ae ?_)))))
  obtain rfl := sj h
  refine Am (sm [(1000, 2002)] [(4, oD (.own 1000))] [(1000, .vec 3 (v2.map Ad))] rfl rfl) (AA ?_)
  exact ⟨⟨[_], ⟨.tmp _ _ rfl, tv⟩, rfl⟩, ⟨rfl, tv⟩⟩
theorem NB (N : Nat) (p0 : Ah) (p1 : Af) (r : Af × Al × Int) (h : FB N p0 p1 = some r) : AD Tryz.prog 55 [.e (.agg [sC (p0.fb.map Ak), sC (p0.ff.map Ak), sC (p0.fh.map Ak), sC (p0.fc.map Ar)]), .e (.agg [sC (p1.fd.map Ak), sC (p1.fa.map Ak), sC (p1.fe.map Bn)])] [] (.tup [.agg [sC (r.1.fd.map Ak), sC (r.1.fa.map Ak), sC (r.1.fe.map Bn)], .agg [iC r.2.1.fr, iC r.2.1.ft, iC r.2.1.fu], .one (iC r.2.2)]) := by
 unfold FB at h
 refine Av (n := 42) (rs := [.cell 4 46, .cell 5 66, .tmp 6]) Tryz.func55 rfl rfl rfl (A6 rfl) (A6 rfl) rfl fun w0 S0 => ?_
 refine Ab (Aa Ac rfl (qb rfl (qb rfl (qz Cw rfl (qz Jk rfl (qa rfl (Ae (Ab (Aa Ac rfl (qL DL Di rfl (qL A7 Az rfl ?_)))))))))))
 obtain ⟨v1, a1, h⟩ := bind_some h
 refine AJ [2001] (Qe N p0 p1 v1 a1) bY rfl (qm rfl (qx rfl (qx rfl (qa rfl (qa rfl (Ae (Ab (Ab (Aa Ac rfl (qm rfl (Cp rfl (Ae ?_))))))))))))
 refine Ap rfl (fun c2 => ?_) (fun c2 => ?_)
 ·have h := Ao c2 h
  refine Ab (Aa Ac rfl (Bz Cw HB rfl (Bz Jk SN rfl (qm rfl (qs Az rfl (qs A2 rfl (qa rfl (Ae ?_))))))))
  obtain rfl := sj h
  refine Am ((PZ 4 _ rfl).trans (sm [] [(4, oD (.ptr 4 0)), (5, oD (.ptr 5 0)), (6, iD v1.2)] [(4, .box [sC ((([] : List Int)).map Ak), sC ((([] : List Int)).map Ak), sC ((([] : List Int)).map Bn)]), (5, .box [iC 0, iC 0, iC 0])] rfl rfl)) (AA ?_)
  exact ⟨⟨[_, _, _], ⟨.cellN _ _ _ _ _ _ _ rfl rfl A7 Az rfl rfl (Jx rfl), ⟨.cellN _ _ _ _ _ _ _ rfl rfl Do A2 rfl rfl (Jx rfl), ⟨.tmp _ _ rfl, tv⟩⟩⟩, rfl⟩, tv⟩
 ·have h := An c2 h
  refine Aq (Ab (Ab (Aa Ac rfl (qm rfl (EN AV rfl (qm rfl (Ae ?_)))))))
  refine AE (L := E6 N p0 v1) h (fun v3 => mk [(2, oD (.ptr 2 0)), (4, oD (.ptr 4 0)), (5, oD (.ptr 5 0)), (23, oD (.own 2002)), (24, iD ((v1.1.length : Int))), (25, iD v3)] [(2, .box [sC (p0.fb.map Ak), sC (p0.ff.map Ak), sC (p0.fh.map Ak), sC (p0.fc.map Ar)]), (4, .box [.pure (.nil0), .pure (.nil0), .pure (.nil0)]), (5, .box [iC 0, iC 0, iC 0]), (2002, .vec 3 (v1.1.map Ai))]) (fun v4 => mk [(4, oD (.ptr 4 0)), (5, oD (.ptr 5 0))] [(4, .box [.pure (.nil0), .pure (.nil0), .pure (.nil0)]), (5, .box [iC 0, iC 0, iC 0])]) (fun _ _ => rfl) (sm [(2002, 2001)] _ _ rfl rfl) (fun j3 n3 v3 h => ?_) (fun v4 s h hs => ?_)
  ·unfold E6 at h
   refine Ab (Aa Ac rfl (AX rfl (Ae (Ab ?_))))
   refine Ap rfl (fun c5 => ?_) (fun c5 => ?_)
   ·have h := Ao c5 h
    refine Aq (Ab (AK (Ab (Aa Ac rfl ?_))))
    obtain ⟨v6, a6, b6, h⟩ := Aj h
    refine qI AV Az a6 (Ag b6) rfl (qJ A7 Az (Ag b6) rfl (qz Cw rfl (qs Az rfl (Ae (Ab (Aa Ac rfl (qL DL Di rfl (qL A7 Az rfl ?_))))))))
    obtain ⟨v7, a7, h⟩ := bind_some h
    refine AJ [2003] (NP N p0 v6 v7 a7) aB rfl (qa rfl (Ae (Ab (Aa Ac rfl (qm rfl (EN Ba rfl (E2 rfl (Ae ?_))))))))
    refine Ap rfl (fun c8 => ?_) (fun c8 => ?_)
    ·have h := Ao c8 h
     refine Ab (Aa Ac rfl (qL A7 Az rfl (qm rfl ?_)))
     obtain ⟨v9, a9, b9, h⟩ := Aj h
     refine qI Ba A2 a9 (Ag b9) rfl (qJ Do A2 (Ag b9) rfl (qs Az rfl (qs A2 rfl (qa rfl (AB (by kernel_rfl) ?_)))))
     obtain rfl := sj h
     refine Am (sm [] [(4, oD (.ptr 4 0)), (5, oD (.ptr 5 0)), (6, iD 0)] [(4, .box [sC (v6.fd.map Ak), sC (v6.fa.map Ak), sC (v6.fe.map Bn)]), (5, .box [iC v9.fr, iC v9.ft, iC v9.fu])] rfl rfl) (AA ?_)
     exact ⟨⟨[_, _, _], ⟨.cellN _ _ _ _ _ _ _ rfl rfl A7 Az rfl rfl (Jx rfl), ⟨.cellN _ _ _ _ _ _ _ rfl rfl Do A2 rfl rfl (Jx rfl), ⟨.tmp _ _ rfl, tv⟩⟩⟩, rfl⟩, tv⟩
    ·have h := An c8 h
     refine Aq (Aa Ac rfl (AR rfl (qm rfl (Ae ?_))))
     exact Au _ h (sm [] _ _ rfl rfl)
   ·have h := An c5 h
    refine AS ?_
    exact Au _ h (sm [] _ _ rfl rfl)
  ·refine Am hs (Ab (Aa Ac rfl (Bz Cw HB rfl (Bz Jk SN rfl (qs Az rfl (qs A2 rfl (qa rfl (Ae ?_))))))))
   obtain rfl := sj h
   refine Am ((PZ 4 _ rfl).trans (sm [] [(4, oD (.ptr 4 0)), (5, oD (.ptr 5 0)), (6, iD 15)] [(4, .box [sC ((([] : List Int)).map Ak), sC ((([] : List Int)).map Ak), sC ((([] : List Int)).map Bn)]), (5, .box [iC 0, iC 0, iC 0])] rfl rfl)) (AA ?_)
   exact ⟨⟨[_, _, _], ⟨.cellN _ _ _ _ _ _ _ rfl rfl A7 Az rfl rfl (Jx rfl), ⟨.cellN _ _ _ _ _ _ _ rfl rfl Do A2 rfl rfl (Jx rfl), ⟨.tmp _ _ rfl, tv⟩⟩⟩, rfl⟩, tv⟩
theorem H4 (N : Nat) (p0 : Ah) (p1 : Af) (r : Bool × Int) (h : DW N p0 p1 = some r) : AD Tryz.prog 45 [.e (.agg [sC (p0.fb.map Ak), sC (p0.ff.map Ak), sC (p0.fh.map Ak), sC (p0.fc.map Ar)]), .e (.agg [sC (p1.fd.map Ak), sC (p1.fa.map Ak), sC (p1.fe.map Bn)])] [] (.tup [.one (.pure (.val (.bool r.1))), .one (iC r.2)]) := by
 unfold DW at h
 refine Av (n := 22) (rs := [.tmp 4, .tmp 5]) Tryz.func45 rfl rfl rfl (A6 rfl) (A6 rfl) rfl fun w0 S0 => ?_
 refine Ab (Aa Ac rfl (qb rfl (qb rfl (qa rfl (qa rfl (Ae (Ab (Aa Ac rfl (qL DL Di rfl (qL A7 Az rfl ?_))))))))))
 obtain ⟨v1, a1, h⟩ := bind_some h
 refine AJ [] (NB N p0 p1 v1 a1) Y8 rfl (qm rfl (qx rfl (qx rfl (qx rfl (qz Cw rfl (qz Jk rfl (qs Az rfl (qs A2 rfl (qa rfl (Ae (Ab (Aa Ac rfl (qm rfl (Ae (AK (Ab (Aa Ac rfl (BK rfl (qa rfl (Ae ?_))))))))))))))))))))
 refine Ap rfl (fun c2 => ?_) (fun c2 => ?_)
 ·have h := Ao c2 h
  refine Ab (Aa Ac rfl (qa rfl (qa rfl (Ae ?_))))
  obtain rfl := sj h
  refine Am (sm [] [(4, bD false), (5, iD 0)] [] rfl rfl) (AA ?_)
  exact ⟨⟨[_, _], ⟨.tmp _ _ rfl, ⟨.tmp _ _ rfl, tv⟩⟩, rfl⟩, tv⟩
 ·have h := An c2 h
  refine Ab (Aa Ac rfl (BK rfl (qa rfl (Ae ?_))))
  refine Ap rfl (fun c3 => ?_) (fun c3 => ?_)
  ·have h := Ao c3 h
   refine Ab (Aa Ac rfl (qa rfl (qa rfl (Ae ?_))))
   obtain rfl := sj h
   refine Am (sm [] [(4, bD true), (5, iD 0)] [] rfl rfl) (AA ?_)
   exact ⟨⟨[_, _], ⟨.tmp _ _ rfl, ⟨.tmp _ _ rfl, tv⟩⟩, rfl⟩, tv⟩
  ·have h := An c3 h
   refine Ab (Aa Ac rfl (qm rfl (qa rfl (qa rfl (Ae ?_)))))
   obtain rfl := sj h
   refine Am (sm [] [(4, bD false), (5, iD v1.2.2)] [] rfl rfl) (AA ?_)
   exact ⟨⟨[_, _], ⟨.tmp _ _ rfl, ⟨.tmp _ _ rfl, tv⟩⟩, rfl⟩, tv⟩
theorem Pg (N : Nat) (p0 : Ah) (r : Af × Bool × Int) (h : GK N p0 = some r) : AD Tryz.prog 83 [.e (.agg [sC (p0.fb.map Ak), sC (p0.ff.map Ak), sC (p0.fh.map Ak), sC (p0.fc.map Ar)])] [(1, r.1.fd.map Ak), (1, r.1.fa.map Ak), (1, r.1.fe.map Bn)] (.tup [.agg [.own 0, .own 1, .own 2], .one (.pure (.val (.bool r.2.1))), .one (iC r.2.2)]) := by
 unfold GK at h
 refine Av (n := 26) (rs := [.cell 2 46, .tmp 3, .tmp 4]) Tryz.func83 rfl rfl rfl (A6 rfl) (A6 rfl) rfl fun w0 S0 => ?_
 refine Ab (Aa Ac rfl (qb rfl (qz Cw rfl (qa rfl (qa rfl (Ae (Ab (Aa Ac rfl (qL DL Di rfl ?_)))))))))
 obtain ⟨v1, a1, h⟩ := bind_some h
 refine AJ [2001, 2002, 2003] (Nt N p0 v1 a1) aL rfl (qm rfl (qx rfl (qx rfl (qz Cw rfl (qs Az rfl (qa rfl (Ae (Ab (Ab (Aa Ac rfl (qm rfl (Cp rfl (Ae ?_)))))))))))))
 refine Ap rfl (fun c2 => ?_) (fun c2 => ?_)
 ·have h := Ao c2 h
  refine Ab (Aa Ac rfl (Bz Cw HB rfl (qm rfl (qs Az rfl (qa rfl (qa rfl (Ae ?_)))))))
  obtain rfl := sj h
  refine Am ((AH 2 0 2004 1 _ rfl rfl rfl rfl).trans ((AH 2 1 2005 1 _ rfl rfl rfl rfl).trans ((AH 2 2 2006 1 _ rfl rfl rfl rfl).trans (sm [(1000, 2004), (1001, 2005), (1002, 2006)] [(2, oD (.ptr 2 0)), (3, bD false), (4, iD v1.2)] [(2, .box [.own 1000, .own 1001, .own 1002]), (1000, .vec 1 ((([] : List Int)).map Ak)), (1001, .vec 1 ((([] : List Int)).map Ak)), (1002, .vec 1 ((([] : List Int)).map Bn))] rfl rfl)))) (AA ?_)
  exact ⟨⟨[_, _, _], ⟨.cellN _ _ _ _ _ _ _ rfl rfl A7 Az rfl rfl (Jx rfl), ⟨.tmp _ _ rfl, ⟨.tmp _ _ rfl, tv⟩⟩⟩, rfl⟩, ⟨rfl, rfl, rfl, tv⟩⟩
 ·have h := An c2 h
  refine Aq (Ab (Aa Ac rfl (qL DL Di rfl (qL A7 Az rfl ?_))))
  obtain ⟨v3, a3, h⟩ := bind_some h
  refine Dj [] [2001, 2002, 2003] (H4 N p0 v1.1 v3 a3) V3 B4 rfl (qm rfl (qx rfl (qx rfl (qa rfl (qa rfl (Ae (Ab (Aa Ac rfl (qL A7 Az rfl (qm rfl (qm rfl (qs Az rfl (qa rfl (qa rfl (Ae ?_)))))))))))))))
  obtain rfl := sj h
  refine Am (sm [(1000, 2001), (1001, 2002), (1002, 2003)] [(2, oD (.ptr 2 0)), (3, bD v3.1), (4, iD v3.2)] [(2, .box [.own 1000, .own 1001, .own 1002]), (1000, .vec 1 (v1.1.fd.map Ak)), (1001, .vec 1 (v1.1.fa.map Ak)), (1002, .vec 1 (v1.1.fe.map Bn))] rfl rfl) (AA ?_)
  exact ⟨⟨[_, _, _], ⟨.cellN _ _ _ _ _ _ _ rfl rfl A7 Az rfl rfl (Jx rfl), ⟨.tmp _ _ rfl, ⟨.tmp _ _ rfl, tv⟩⟩⟩, rfl⟩, ⟨rfl, rfl, rfl, tv⟩⟩
theorem Lg (N : Nat) (p0 : Af) (r : ByteArray) (h : F7 N p0 = some r) : AD Tryz.prog 84 [.e (.agg [sC (p0.fd.map Ak), sC (p0.fa.map Ak), sC (p0.fe.map Bn)])] [] (pD (.val (.string r))) := by
 unfold F7 at h
 refine Av (n := 44) (rs := [.tmp 2]) Tryz.func84 rfl rfl rfl (A6 rfl) (A6 rfl) rfl fun w0 S0 => ?_
 refine Ab (Aa Ac rfl (qb rfl (qa rfl (Ae (Ab (Aa Ac rfl (qa rfl (Ae (Ab (Ab (Aa Ac rfl (qf CO rfl (ql Bo rfl (A1 AL rfl (qm rfl (Ae ?_))))))))))))))))
 refine AE (L := Ex N p0) h (fun v1 => mk [(1, oD (.ptr 1 0)), (3, oD (.own 2001)), (9, iD ((p0.fd.length : Int))), (10, iD v1.2)] [(1, .box [sC (p0.fd.map Ak), sC (p0.fa.map Ak), sC (p0.fe.map Bn)]), (2001, .vec 1 (v1.1.map Bn))]) (fun v2 => mk [(1, oD (.ptr 1 0)), (3, oD (.own 2002))] [(1, .box [sC (p0.fd.map Ak), sC (p0.fa.map Ak), sC (p0.fe.map Bn)]), (2002, .vec 1 (v2.map Bn))]) (fun _ _ => rfl) ((Bu 3 2003 1 rfl rfl rfl).trans (sm [(2001, 2003)] _ _ rfl rfl)) (fun j1 n1 v1 h => ?_) (fun v2 s h hs => ?_)
 ·unfold Ex at h
  refine Ab (Aa Ac rfl (AX rfl (Ae (Ab ?_))))
  refine Ap rfl (fun c3 => ?_) (fun c3 => ?_)
  ·have h := Ao c3 h
   refine Aq (Ab (AK (Ab (Aa Ac rfl (qm rfl (qa rfl (Ae (Aa Ac rfl (qm rfl (qf CO rfl (ql Bo rfl (qm rfl ?_))))))))))))
   obtain ⟨v4, a4, b4, h⟩ := Aj h
   refine qi AL Du a4 (Ag b4) rfl (qk Cm rfl (GY Wr aS rfl (qf BH rfl (ql Bo rfl (qm rfl ?_)))))
   obtain ⟨v5, a5, b5, h⟩ := Aj h
   refine qi AL Du a5 (Ag b5) rfl (qk Cm rfl (AR rfl (GY Wr aS rfl (DY Ld YV aQ rfl ?_))))
   obtain ⟨c6, h⟩ := AU h
   refine DO (f := Bn) Ld Ld YV aa aQ c6 rfl (qa rfl (AB (by kernel_rfl) (Aa Ac rfl (AR rfl (qm rfl (Ae ?_))))))
   exact Au _ h (sm [(2001, 28)] _ _ rfl rfl)
  ·have h := An c3 h
   refine AS ?_
   exact Au _ h (sm [(2002, 2001)] _ _ rfl rfl)
 ·refine Am hs (Ab (Ab (Aa Ac rfl (qf CU rfl (ql Hb rfl (A1 Dr rfl (qm rfl (Ae ?_))))))))
  refine AE (L := DD N p0) h (fun v7 => mk [(3, oD (.own 2004)), (31, pD (.sl (p0.fe.map Bn))), (32, iD ((p0.fe.length : Int))), (33, iD v7.2)] [(2004, .vec 1 (v7.1.map Bn))]) (fun v8 => mk [(3, oD (.own 2005))] [(2005, .vec 1 (v8.map Bn))]) (fun _ _ => rfl) (sm [(2004, 2002)] _ _ rfl rfl) (fun j7 n7 v7 h => ?_) (fun v8 s h hs => ?_)
  ·unfold DD at h
   refine Ab (Aa Ac rfl (AX rfl (Ae (Ab ?_))))
   refine Ap rfl (fun c9 => ?_) (fun c9 => ?_)
   ·have h := Ao c9 h
    refine Aq (Ab (AK (Ab (Aa Ac rfl ?_))))
    obtain ⟨v10, a10, b10, h⟩ := Aj h
    refine qi Dr F5 a10 (Ag b10) rfl (qk Ky rfl (qa rfl (Ae (Aa Ac rfl (qm rfl (qm rfl (DY Ld YV aQ rfl ?_)))))))
    obtain ⟨c11, h⟩ := AU h
    refine DO (f := Bn) Ld Ld YV aa aQ c11 rfl (qa rfl (Ae (Aa Ac rfl (AR rfl (qm rfl (Ae ?_))))))
    exact Au _ h (sm [(2004, 40)] _ _ rfl rfl)
   ·have h := An c9 h
    refine AS ?_
    exact Au _ h (sm [(2005, 2004)] _ _ rfl rfl)
  ·refine Am hs (Ab (Aa Ac rfl (qm rfl ?_)))
   refine Ve v8 (.p rfl) rfl (U4 Bn _ _ _) ⟨rfl, tv⟩ rfl ap Xe ?_
   refine qa rfl (Ae ?_)
   obtain rfl := sj h
   refine Am (sm [] [(2, pD (.val (.string ((C0 v8)))))] [] rfl rfl) (AA ?_)
   exact ⟨⟨[_], ⟨.tmp _ _ rfl, tv⟩, rfl⟩, tv⟩
theorem S6 (N : Nat) (p0 : Ah) (r : (List As)) (h : Iy N p0 = some r) : AD Tryz.prog 95 [.e (.agg [sC (p0.fb.map Ak), sC (p0.ff.map Ak), sC (p0.fh.map Ak), sC (p0.fc.map Ar)])] [(3, r.map A4)] (oD (.own 0)) := by
 unfold Iy at h
 refine Av (n := 54) (rs := [.tmp 2]) Tryz.func95 rfl rfl rfl (A6 rfl) (A6 rfl) rfl fun w0 S0 => ?_
 refine Ab (Aa Ac rfl (qb rfl (qa rfl (Ae (Ab (Aa Ac rfl (qa rfl (Ae (Ab (Ab (Aa Ac rfl (qf BO rfl (ql Bo rfl (A1 AL rfl (qm rfl (Ae ?_))))))))))))))))
 refine AE (L := DC N p0) h (fun v1 => mk [(1, oD (.ptr 1 0)), (3, oD (.own 2001)), (10, pD (.sl (p0.fb.map Ak))), (11, iD ((p0.fb.length : Int))), (12, iD v1.2)] [(1, .box [sC (p0.fb.map Ak), sC (p0.ff.map Ak), sC (p0.fh.map Ak), sC (p0.fc.map Ar)]), (2001, .vec 3 (v1.1.map A4))]) (fun v2 => mk [(1, oD (.ptr 1 0)), (3, oD (.own 2002))] [(1, .box [sC (p0.fb.map Ak), sC (p0.ff.map Ak), sC (p0.fh.map Ak), sC (p0.fc.map Ar)]), (2002, .vec 3 (v2.map A4))]) (fun _ _ => rfl) ((Bu 3 2005 3 rfl rfl rfl).trans (sm [(2001, 2005)] _ _ rfl rfl)) (fun j1 n1 v1 h => ?_) (fun v2 s h hs => ?_)
 ·unfold DC at h
  refine Ab (Aa Ac rfl (AX rfl (Ae (Ab ?_))))
  refine Ap rfl (fun c3 => ?_) (fun c3 => ?_)
  ·have h := Ao c3 h
   refine Aq (Ab (AK (Ab (Aa Ac rfl (qm rfl ?_)))))
   obtain ⟨v4, a4, b4, h⟩ := Aj h
   refine qi AL Du a4 (Ag b4) rfl (qk Cm rfl (qa rfl (qa rfl (Ae (Ab (Aa Ac rfl (qm rfl (qm rfl (Ae ?_)))))))))
   refine AE (L := E1 N v1 v4) h (fun v5 => mk [(1, oD (.ptr 1 0)), (3, oD (.own 2003)), (4, iD v1.2), (10, pD (.sl (p0.fb.map Ak))), (11, iD ((p0.fb.length : Int))), (12, iD v1.2), (17, iD v4), (18, iD v5.2)] [(1, .box [sC (p0.fb.map Ak), sC (p0.ff.map Ak), sC (p0.fh.map Ak), sC (p0.fc.map Ar)]), (2003, .vec 3 (v5.1.map A4))]) (fun v6 => mk [(1, oD (.ptr 1 0)), (3, oD (.own 2004)), (10, pD (.sl (p0.fb.map Ak))), (11, iD ((p0.fb.length : Int))), (12, iD v1.2)] [(1, .box [sC (p0.fb.map Ak), sC (p0.ff.map Ak), sC (p0.fh.map Ak), sC (p0.fc.map Ar)]), (2004, .vec 3 (v6.map A4))]) (fun _ _ => rfl) (sm [(2003, 2001)] _ _ rfl rfl) (fun j5 n5 v5 h => ?_) (fun v6 s h hs => ?_)
   ·unfold E1 at h
    refine Ab (Aa Ac rfl (AX rfl (Ae (Ab ?_))))
    refine Ap rfl (fun c7 => ?_) (fun c7 => ?_)
    ·have h := Ao c7 h
     refine Aq (Ab (AK (Ab (Aa Ac rfl (qm rfl (qa rfl (Ae (Aa Ac rfl (qm rfl (qm rfl (qm rfl (Bz JU U3 rfl (DY Fm Fb JU rfl ?_)))))))))))))
     obtain ⟨c8, h⟩ := AU h
     refine DO (f := A4) Fm Fm Fb Sf JU c8 rfl (qa rfl (Ae (Aa Ac rfl (AR rfl (qm rfl (Ae ?_))))))
     exact Au _ h (sm [(2003, 26)] _ _ rfl rfl)
    ·have h := An c7 h
     refine AS ?_
     exact Au _ h (sm [(2004, 2003)] _ _ rfl rfl)
   ·refine Am hs (Aa Ac rfl (AR rfl (qm rfl (Ae ?_))))
    exact Au _ h (sm [(2001, 2004)] _ _ rfl rfl)
  ·have h := An c3 h
   refine AS ?_
   exact Au _ h (sm [(2002, 2001)] _ _ rfl rfl)
 ·refine Am hs (Ab (Ab (Aa Ac rfl (qf BO rfl (ql Bo rfl (A1 AL rfl (qm rfl (Ae ?_))))))))
  refine AE (L := CI N p0) h (fun v9 => mk [(1, oD (.ptr 1 0)), (3, oD (.own 2006)), (31, iD ((p0.fb.length : Int))), (32, iD v9.2)] [(1, .box [sC (p0.fb.map Ak), sC (p0.ff.map Ak), sC (p0.fh.map Ak), sC (p0.fc.map Ar)]), (2006, .vec 3 (v9.1.map A4))]) (fun v10 => mk [(1, oD (.ptr 1 0)), (3, oD (.own 2007))] [(1, .box [sC (p0.fb.map Ak), sC (p0.ff.map Ak), sC (p0.fh.map Ak), sC (p0.fc.map Ar)]), (2007, .vec 3 (v10.map A4))]) (fun _ _ => rfl) (sm [(2006, 2002)] _ _ rfl rfl) (fun j9 n9 v9 h => ?_) (fun v10 s h hs => ?_)
  ·unfold CI at h
   refine Ab (Aa Ac rfl (AX rfl (Ae (Ab ?_))))
   refine Ap rfl (fun c11 => ?_) (fun c11 => ?_)
   ·have h := Ao c11 h
    refine Aq (Ab (AK (Ab (Aa Ac rfl (qm rfl (qa rfl (Ae (Aa Ac rfl (qm rfl (qm rfl (Bz JU U3 rfl (DY Fm Fb JU rfl ?_))))))))))))
    obtain ⟨c12, h⟩ := AU h
    refine DO (f := A4) Fm Fm Fb Sf JU c12 rfl (qa rfl (Ae (Aa Ac rfl (AR rfl (qm rfl (Ae ?_))))))
    exact Au _ h (sm [(2006, 39)] _ _ rfl rfl)
   ·have h := An c11 h
    refine AS ?_
    exact Au _ h (sm [(2007, 2006)] _ _ rfl rfl)
  ·refine Am hs (Ab (Ab (Aa Ac rfl (qf Dc rfl (ql Ia rfl (A1 EG rfl (qm rfl (Ae ?_))))))))
   refine AE (L := BL N p0) h (fun v13 => mk [(3, oD (.own 2008)), (43, iD ((p0.fc.length : Int))), (44, iD v13.2)] [(2008, .vec 3 (v13.1.map A4))]) (fun v14 => mk [(3, oD (.own 2009))] [(2009, .vec 3 (v14.map A4))]) (fun _ _ => rfl) (sm [(2008, 2007)] _ _ rfl rfl) (fun j13 n13 v13 h => ?_) (fun v14 s h hs => ?_)
   ·unfold BL at h
    refine Ab (Aa Ac rfl (AX rfl (Ae (Ab ?_))))
    refine Ap rfl (fun c15 => ?_) (fun c15 => ?_)
    ·have h := Ao c15 h
     refine Aq (Ab (AK (Ab (Aa Ac rfl (qm rfl (qa rfl (Ae (Aa Ac rfl (qm rfl (qm rfl (Bz JU U3 rfl (DY Fm Fb JU rfl ?_))))))))))))
     obtain ⟨c16, h⟩ := AU h
     refine DO (f := A4) Fm Fm Fb Sf JU c16 rfl (qa rfl (Ae (Aa Ac rfl (AR rfl (qm rfl (Ae ?_))))))
     exact Au _ h (sm [(2008, 51)] _ _ rfl rfl)
    ·have h := An c15 h
     refine AS ?_
     exact Au _ h (sm [(2009, 2008)] _ _ rfl rfl)
   ·refine Am hs (Ab (Aa Ac rfl (qm rfl (qa rfl (Ae ?_)))))
    obtain rfl := sj h
    refine Am (sm [(1000, 2009)] [(2, oD (.own 1000))] [(1000, .vec 3 (v14.map A4))] rfl rfl) (AA ?_)
    exact ⟨⟨[_], ⟨.tmp _ _ rfl, tv⟩, rfl⟩, ⟨rfl, tv⟩⟩
theorem Pj (N : Nat) (p0 : Af) (r : Af) (h : GI N p0 = some r) : AD Tryz.prog 123 [.e (.agg [sC (p0.fd.map Ak), sC (p0.fa.map Ak), sC (p0.fe.map Bn)])] [(1, r.fd.map Ak), (1, r.fa.map Ak), (1, r.fe.map Bn)] (.e (.agg [.own 0, .own 1, .own 2])) := by
 unfold GI at h
 refine Av (n := 13) (rs := [.cell 2 46]) Tryz.func123 rfl rfl rfl (A6 rfl) (A6 rfl) rfl fun w0 S0 => ?_
 refine Ab (Aa Ac rfl (qb rfl (qz Cw rfl (Ae (Ab (Aa Ac rfl (qf CO rfl (ql Bo rfl ?_))))))))
 obtain ⟨v1, a1, h⟩ := bind_some h
 refine AJ [2001] (Db N p0.fd v1 a1) Sx rfl (qf BH rfl (ql Bo rfl ?_))
 obtain ⟨v2, a2, h⟩ := bind_some h
 refine AJ [2002] (Db N p0.fa v2 a2) Sx rfl (qf CU rfl (ql Hb rfl ?_))
 obtain ⟨v3, a3, h⟩ := bind_some h
 refine AJ [2003] (EK N p0.fe v3 a3) Yl rfl (Bz Cw HB rfl (qs Az rfl (AB (by kernel_rfl) ?_)))
 obtain rfl := sj h
 refine Am (sm [(1000, 2001), (1001, 2002), (1002, 2003)] [(2, oD (.ptr 2 0))] [(2, .box [.own 1000, .own 1001, .own 1002]), (1000, .vec 1 (v1.map Ak)), (1001, .vec 1 (v2.map Ak)), (1002, .vec 1 (v3.map Bn))] rfl rfl) (AA ?_)
 exact ⟨⟨[_], ⟨.cellN _ _ _ _ _ _ _ rfl rfl A7 Az rfl rfl (Jx rfl), tv⟩, rfl⟩, ⟨rfl, rfl, rfl, tv⟩⟩
theorem LL (N : Nat) (p0 : AQ) (r : Bool) (h : FX N p0 = some r) : AD Tryz.prog 156 [.e (.agg [iC p0.fg, iC p0.fi, iC p0.fk, .pure (.val (.bool p0.fp)), sC (p0.fq.map (Fn eB)), sC (p0.fm.map (Fn eB))])] [] (bD r) := by
 unfold FX at h
 refine Av (n := 11) (rs := [.tmp 2]) Tryz.func156 rfl rfl rfl (A6 rfl) (A6 rfl) rfl fun w0 S0 => ?_
 refine Ab (Aa Ac rfl (qb rfl (qa rfl (Ae ?_))))
 refine AO h (fun v1 => mk [(2, bD v1)] []) (fun j1 h => ?_) (fun v1 h => ?_)
 ·refine Aa Ac rfl (qf Gx rfl (ql Cm rfl (BK rfl (qm rfl ?_))))
  refine AF (t := 6) rfl (fun c2 => ?_) (fun c2 => ?_)
  ·have h := Ao c2 h
   refine qn rfl (qn rfl (qn rfl (qp rfl (qa rfl (Ae ?_)))))
   exact Au _ h (sm [] _ _ rfl rfl)
  ·have h := An c2 h
   refine qf Gx rfl (ql Cm rfl (BK rfl (qp rfl (qa rfl (Ae ?_)))))
   exact Au _ h (sm [] _ _ rfl rfl)
 ·obtain rfl := sj h
  refine Am (sm [] [(2, bD v1)] [] rfl rfl) (AA ?_)
  exact ⟨⟨[_], ⟨.tmp _ _ rfl, tv⟩, rfl⟩, tv⟩
theorem QE (N : Nat) (p0 : Ah) (p1 : Af) (p2 : As) (r : Bool × (List Int) × (List Int)) (h : Is N p0 p1 p2 = some r) : Bj Tryz.prog 124 [.e (.agg [sC (p0.fb.map Ak), sC (p0.ff.map Ak), sC (p0.fh.map Ak), sC (p0.fc.map Ar)]), oD (.ptr 90000 0), .e (.agg [iC p2.fg, iC p2.fj, iC p2.fo])] [(.box [.own 90001, .own 90002, .own 90003], .box [.own 90001, .own 90002, .own 90003]), (.vec 1 (p1.fd.map Ak), .vec 1 (p1.fd.map Ak)), (.vec 1 (p1.fa.map Ak), .vec 1 (r.2.1.map Ak)), (.vec 1 (p1.fe.map Bn), .vec 1 (r.2.2.map Bn))] [] (bD r.1) := by
 unfold Is at h
 refine A9 (n := 70) (rs := [.tmp 6]) Tryz.func124 rfl rfl rfl (A6 rfl) (A6 rfl) rfl rfl (A6 rfl) rfl (A6 rfl) fun w0 S0 GL => ?_
 refine Am (sm [] [(0, .e (.agg [sC (p0.fb.map Ak), sC (p0.ff.map Ak), sC (p0.fh.map Ak), sC (p0.fc.map Ar)])), (1, oD (.ptr 90000 0)), (2, .e (.agg [iC p2.fg, iC p2.fj, iC p2.fo]))] [(90000, .box [.own 90001, .own 90002, .own 90003]), (90001, .vec 1 (p1.fd.map Ak)), (90002, .vec 1 (p1.fa.map Ak)), (90003, .vec 1 (p1.fe.map Bn))] rfl rfl) (Ab (Aa Ac rfl (qb rfl (qb rfl (qa rfl (Ae (Ab ?_)))))))
 refine AO h (fun v1 => mk [(1, oD (.ptr 90000 0)), (3, oD (.ptr 3 0)), (5, oD (.ptr 5 0)), (30, bD v1)] [(3, .box [sC (p0.fb.map Ak), sC (p0.ff.map Ak), sC (p0.fh.map Ak), sC (p0.fc.map Ar)]), (5, .box [iC p2.fg, iC p2.fj, iC p2.fo]), (90000, .box [.own 90001, .own 90002, .own 90003]), (90001, .vec 1 (p1.fd.map Ak)), (90002, .vec 1 (p1.fa.map Ak)), (90003, .vec 1 (p1.fe.map Bn))]) (fun j1 h => ?_) (fun v1 h => ?_)
 ·refine Aa Ac rfl (qm rfl (O2 rfl (qf BH rfl (ql Bo rfl (qf Fq rfl (ql Cm rfl ?_))))))
  obtain ⟨v2, a2, b2, h⟩ := Aj h
  refine qI AL Du a2 (Ag b2) rfl (qj Cm (Ag b2) rfl (Cz rfl (qm rfl ?_)))
  refine AF (t := 18) rfl (fun c3 => ?_) (fun c3 => ?_)
  ·have h := Ao c3 h
   refine qn rfl (qn rfl (qn rfl (qn rfl (qn rfl (qn rfl (qn rfl (qn rfl (qn rfl (qn rfl (qn rfl (qp rfl (AB (by kernel_rfl) ?_))))))))))))
   exact Au _ h (sm [] _ _ rfl rfl)
  ·have h := An c3 h
   refine qm rfl (O2 rfl (qf CO rfl (ql Bo rfl (qf Fq rfl (ql Cm rfl ?_)))))
   obtain ⟨v4, a4, b4, h⟩ := Aj h
   refine qI AL Du a4 (Ag b4) rfl (qj Cm (Ag b4) rfl (qf Hs rfl (ql Cm rfl (BK rfl (qp rfl (AB (by kernel_rfl) ?_))))))
   exact Au _ h (sm [] _ _ rfl rfl)
 ·refine Ap rfl (fun c5 => ?_) (fun c5 => ?_)
  ·have h := Ao c5 h
   refine Ab (Aa Ac rfl (qa rfl (Ae ?_)))
   obtain rfl := sj h
   refine Am (sm [] [(6, bD false)] [(90000, .box [.own 90001, .own 90002, .own 90003]), (90001, .vec 1 (p1.fd.map Ak)), (90002, .vec 1 (p1.fa.map Ak)), (90003, .vec 1 (p1.fe.map Bn))] rfl rfl) (AA ?_)
   exact ⟨⟨[_], ⟨.tmp _ _ rfl, tv⟩, rfl⟩, ⟨rfl, rfl, rfl, rfl, tv⟩, tv⟩
  ·have h := An c5 h
   refine Aq (Ab (Aa Ac rfl (qm rfl (O2 rfl (qf BH rfl (ql Bo rfl (qf Fq rfl (ql Cm rfl (qf Hs rfl (ql Cm rfl ?_))))))))))
   obtain ⟨v6, a6, b6, h⟩ := Aj h
   refine qI AL Du a6 (Ag b6) rfl ?_
   refine AY rfl rfl rfl rfl (Ag b6) rfl Du rfl (A6 rfl) (AZ Ak p1.fa _ p2.fo) ?_
   refine AB (by kernel_rfl) (Ab (Ab (Aa Ac rfl (qf Dc rfl (ql Ia rfl (A1 EG rfl (qm rfl (Ae ?_))))))))
   refine AE (L := Ed N p0 p2) h (fun v7 => mk [(1, oD (.ptr 90000 0)), (5, oD (.ptr 5 0)), (41, pD (.sl (p0.fc.map Ar))), (42, iD ((p0.fc.length : Int))), (43, iD v7.2)] [(5, .box [iC p2.fg, iC p2.fj, iC p2.fo]), (90000, .box [.own 90001, .own 90002, .own 90003]), (90001, .vec 1 (p1.fd.map Ak)), (90002, .vec 1 ((p1.fa.set ((p2.fj).toNat) p2.fo).map Ak)), (90003, .vec 1 (v7.1.map Bn))]) (fun v8 => mk [] [(90000, .box [.own 90001, .own 90002, .own 90003]), (90001, .vec 1 (p1.fd.map Ak)), (90002, .vec 1 ((p1.fa.set ((p2.fj).toNat) p2.fo).map Ak)), (90003, .vec 1 (v8.map Bn))]) (fun _ _ => rfl) (sm [] _ _ rfl rfl) (fun j7 n7 v7 h => ?_) (fun v8 s h hs => ?_)
   ·unfold Ed at h
    refine Ab (Aa Ac rfl (AX rfl (Ae (Ab ?_))))
    refine Ap rfl (fun c9 => ?_) (fun c9 => ?_)
    ·have h := Ao c9 h
     refine Aq ?_
     refine AO h (fun v10 => mk [(1, oD (.ptr 90000 0)), (5, oD (.ptr 5 0)), (41, pD (.sl (p0.fc.map Ar))), (42, iD ((p0.fc.length : Int))), (43, iD v7.2)] [(5, .box [iC p2.fg, iC p2.fj, iC p2.fo]), (90000, .box [.own 90001, .own 90002, .own 90003]), (90001, .vec 1 (p1.fd.map Ak)), (90002, .vec 1 ((p1.fa.set ((p2.fj).toNat) p2.fo).map Ak)), (90003, .vec 1 (v10.map Bn))]) (fun j10 h => ?_) (fun v10 h => ?_)
     ·refine AK (Ab (Aa Ac rfl (qm rfl ?_)))
      obtain ⟨v11, a11, b11, h⟩ := Aj h
      refine qi EG EO a11 (Ag b11) rfl (qK Io EO rfl (qz LX rfl (qa rfl (qs EO rfl (Ae ?_)))))
      refine AO h (fun v12 => mk [(1, oD (.ptr 90000 0)), (5, oD (.ptr 5 0)), (7, iD v7.2), (41, pD (.sl (p0.fc.map Ar))), (42, iD ((p0.fc.length : Int))), (43, iD v7.2), (56, bD v12)] [(5, .box [iC p2.fg, iC p2.fj, iC p2.fo]), (90000, .box [.own 90001, .own 90002, .own 90003]), (90001, .vec 1 (p1.fd.map Ak)), (90002, .vec 1 ((p1.fa.set ((p2.fj).toNat) p2.fo).map Ak)), (90003, .vec 1 (v7.1.map Bn))]) (fun j12 h => ?_) (fun v12 h => ?_)
      ·refine Aa Ac rfl (qf DI rfl (ql Cm rfl (qf Fq rfl (ql Cm rfl (BK rfl (qm rfl ?_))))))
       refine AF (t := 53) rfl (fun c13 => ?_) (fun c13 => ?_)
       ·have h := Ao c13 h
        refine qL Io EO rfl ?_
        obtain ⟨v14, a14, h⟩ := bind_some h
        refine AJ [] (LL N v11 v14 a14) X8 rfl (qp rfl (Ae ?_))
        exact Au _ h (sm [] _ _ rfl rfl)
       ·have h := An c13 h
        refine qn rfl (qn rfl (qp rfl (Ae ?_)))
        exact Au _ h (sm [] _ _ rfl rfl)
      ·refine Ap rfl (fun c15 => ?_) (fun c15 => ?_)
       ·have h := Ao c15 h
        refine Aa Ac rfl (qm rfl (O2 rfl (qf CU rfl (ql Hb rfl (qm rfl ?_)))))
        obtain ⟨v16, a16, b16, h⟩ := Aj h
        refine qI Dr F5 a16 (Ag b16) rfl (qj Ky (Ag b16) rfl (qf Hs rfl (ql Cm rfl ?_)))
        obtain ⟨c17, h⟩ := AU h
        refine IC rfl c17 (UF rfl ?_)
        obtain ⟨v18, a18, b18, h⟩ := Aj h
        refine qI Dr F5 a18 (Ag b18) rfl ?_
        refine AY rfl rfl rfl rfl (Ag b18) rfl F5 rfl (A6 rfl) (AZ Bn v7.1 _ ((Pa .u8 v16 ((CJ .u8 1 p2.fo))))) ?_
        refine AB (by kernel_rfl) ?_
        exact Au _ h (sm [] _ _ rfl rfl)
       ·have h := An c15 h
        refine Aq ?_
        exact Au _ h (sm [] _ _ rfl rfl)
     ·refine Aa Ac rfl (AR rfl (qm rfl (Ae ?_)))
      exact Au _ h (sm [] _ _ rfl rfl)
    ·have h := An c9 h
     refine AS ?_
     exact Au _ h (sm [] _ _ rfl rfl)
   ·refine Am hs (Ab (Aa Ac rfl (qa rfl (Ae ?_))))
    obtain rfl := sj h
    refine Am (sm [] [(6, bD true)] [(90000, .box [.own 90001, .own 90002, .own 90003]), (90001, .vec 1 (p1.fd.map Ak)), (90002, .vec 1 ((p1.fa.set ((p2.fj).toNat) p2.fo).map Ak)), (90003, .vec 1 (v8.map Bn))] rfl rfl) (AA ?_)
    exact ⟨⟨[_], ⟨.tmp _ _ rfl, tv⟩, rfl⟩, ⟨rfl, rfl, rfl, rfl, tv⟩, tv⟩
theorem N3 (N : Nat) (p0 : Af) (p1 : Int) (r : Int) (h : Gi N p0 p1 = some r) : AD Tryz.prog 157 [.e (.agg [sC (p0.fd.map Ak), sC (p0.fa.map Ak), sC (p0.fe.map Bn)]), iD p1] [] (pD (.val (.int .u8 r))) := by
 unfold Gi at h
 refine Av (n := 27) (rs := [.tmp 4]) Tryz.func157 rfl rfl rfl (A6 rfl) (A6 rfl) rfl fun w0 S0 => ?_
 refine Ab (Aa Ac rfl (qb rfl (qa rfl (Ae (Ab (Aa Ac rfl (qf CO rfl (ql Bo rfl (qm rfl ?_)))))))))
 obtain ⟨v1, a1, b1, h⟩ := Aj h
 refine qi AL Du a1 (Ag b1) rfl (qk Cm rfl ?_)
 obtain ⟨c2, h⟩ := AU h
 refine IC rfl c2 (qa rfl (Ae ?_))
 refine AO h (fun v3 => mk [(5, pD (.val (.int .u8 v3)))] []) (fun j3 h => ?_) (fun v3 h => ?_)
 ·refine Ab (Aa Ac rfl (qf BH rfl (ql Bo rfl (qm rfl ?_))))
  obtain ⟨v4, a4, b4, h⟩ := Aj h
  refine qi AL Du a4 (Ag b4) rfl (qk Cm rfl (Cz rfl (Ae ?_)))
  refine Ap rfl (fun c5 => ?_) (fun c5 => ?_)
  ·have h := Ao c5 h
   refine Aa Ac rfl (qm rfl (qf BH rfl (ql Bo rfl (qm rfl ?_))))
   obtain ⟨v6, a6, b6, h⟩ := Aj h
   refine qi AL Du a6 (Ag b6) rfl (qk Cm rfl ?_)
   obtain ⟨c7, h⟩ := AU h
   refine IC rfl c7 (UF rfl (qa rfl (Ae ?_)))
   exact Au _ h (sm [] _ _ rfl rfl)
  ·have h := An c5 h
   refine Aq ?_
   exact Au _ h (sm [] _ _ rfl rfl)
 ·refine Ab (Aa Ac rfl (qm rfl (qa rfl (Ae ?_))))
  obtain rfl := sj h
  refine Am (sm [] [(4, pD (.val (.int .u8 v3)))] [] rfl rfl) (AA ?_)
  exact ⟨⟨[_], ⟨.tmp _ _ rfl, tv⟩, rfl⟩, tv⟩
theorem Jm (N : Nat) (p0 : Int) (r : Int) (h : Dl N p0 = some r) : AD Tryz.prog 169 [pD (.val (.int .u8 p0))] [] (iD r) := by
 unfold Dl at h
 refine Av (n := 6) (rs := [.tmp 2]) Tryz.func169 rfl rfl rfl (A6 rfl) (A6 rfl) rfl fun w0 S0 => ?_
 refine Ab (Aa Ac rfl (qa rfl (Ae (Ab (Aa Ac rfl (qm rfl ?_))))))
 obtain ⟨v1, a1, h⟩ := bind_some h
 refine MX (.p rfl) rfl rfl Xe a1 ?_
 refine GY XU Ud rfl (qa rfl (Ae ?_))
 obtain rfl := sj h
 refine Am (sm [] [(2, iD ((wI .i64 v1)))] [] rfl rfl) (AA ?_)
 exact ⟨⟨[_], ⟨.tmp _ _ rfl, tv⟩, rfl⟩, tv⟩
theorem MN (N : Nat) (p0 : AQ) (p1 : Int) (p2 : Int) (r : Bool) (h : Gb N p0 p1 p2 = some r) : AD Tryz.prog 158 [.e (.agg [iC p0.fg, iC p0.fi, iC p0.fk, .pure (.val (.bool p0.fp)), sC (p0.fq.map (Fn eB)), sC (p0.fm.map (Fn eB))]), pD (.val (.int .u8 p1)), iD p2] [] (bD r) := by
 unfold Gb at h
 refine Av (n := 25) (rs := [.tmp 6]) Tryz.func158 rfl rfl rfl (A6 rfl) (A6 rfl) rfl fun w0 S0 => ?_
 refine Ab (Aa Ac rfl (qb rfl (qa rfl (Ae (Ab (Ab (Aa Ac rfl (qm rfl (qa rfl (Ae ?_))))))))))
 refine AE (L := DS N p0 p2) h (fun v1 => mk [(2, iD p2), (3, oD (.ptr 3 0)), (7, pD (.val (.int .u8 v1)))] [(3, .box [iC p0.fg, iC p0.fi, iC p0.fk, .pure (.val (.bool p0.fp)), sC (p0.fq.map (Fn eB)), sC (p0.fm.map (Fn eB))])]) (fun v2 => mk [] []) (fun _ _ => rfl) (sm [] _ _ rfl rfl) (fun j1 n1 v1 h => ?_) (fun v2 s h hs => ?_)
 ·unfold DS at h
  refine Ab (Ab (Aa Ac rfl (qm rfl (Cp rfl (Ae ?_)))))
  refine Ap rfl (fun c3 => ?_) (fun c3 => ?_)
  ·have h := Ao c3 h
   refine Aq (Ab (AK (Ab (Aa Ac rfl (qf Hr rfl (ql KL rfl (qm rfl ?_)))))))
   obtain ⟨v4, a4, h⟩ := bind_some h
   refine AJ [] (Jm N v1 v4 a4) Z2 rfl ?_
   obtain ⟨v5, a5, b5, h⟩ := Aj h
   refine qi G6 NO a5 (Ag b5) rfl (qk QM rfl (qm rfl ?_))
   obtain ⟨v6, a6, b6, h⟩ := Aj h
   refine qi Hp Sm a6 (Ag b6) rfl (qk TI rfl (BW rfl (AB (by kernel_rfl) ?_)))
   refine Ap rfl (fun c7 => ?_) (fun c7 => ?_)
   ·have h := Ao c7 h
    refine Ab (Aa Ac rfl (qa rfl (Ae ?_)))
    obtain rfl := sj h
    refine Am (sm [] [(6, bD false)] [] rfl rfl) (AA ?_)
    exact ⟨⟨[_], ⟨.tmp _ _ rfl, tv⟩, rfl⟩, tv⟩
   ·have h := An c7 h
    refine Aq (Aa Ac rfl (qm rfl (qm rfl (Bm rfl (LF rfl (qa rfl (Ae ?_)))))))
    exact Au _ h (sm [] _ _ rfl rfl)
  ·have h := An c3 h
   refine AS ?_
   exact Au _ h (sm [] _ _ rfl rfl)
 ·refine Am hs (Ab (Aa Ac rfl (qa rfl (Ae ?_))))
  obtain rfl := sj h
  refine Am (sm [] [(6, bD true)] [] rfl rfl) (AA ?_)
  exact ⟨⟨[_], ⟨.tmp _ _ rfl, tv⟩, rfl⟩, tv⟩
theorem Qn (N : Nat) (p0 : Ah) (p1 : Af) (p2 : Int) (r : Bool × (List Int)) (h : Hg N p0 p1 p2 = some r) : Bj Tryz.prog 125 [.e (.agg [sC (p0.fb.map Ak), sC (p0.ff.map Ak), sC (p0.fh.map Ak), sC (p0.fc.map Ar)]), oD (.ptr 90000 0), iD p2] [(.box [.own 90001, .own 90002, .own 90003], .box [.own 90001, .own 90002, .own 90003]), (.vec 1 (p1.fd.map Ak), .vec 1 (p1.fd.map Ak)), (.vec 1 (p1.fa.map Ak), .vec 1 (p1.fa.map Ak)), (.vec 1 (p1.fe.map Bn), .vec 1 (r.2.map Bn))] [] (bD r.1) := by
 unfold Hg at h
 refine A9 (n := 68) (rs := [.tmp 6]) Tryz.func125 rfl rfl rfl (A6 rfl) (A6 rfl) rfl rfl (A6 rfl) rfl (A6 rfl) fun w0 S0 GL => ?_
 refine Am (sm [] [(0, .e (.agg [sC (p0.fb.map Ak), sC (p0.ff.map Ak), sC (p0.fh.map Ak), sC (p0.fc.map Ar)])), (1, oD (.ptr 90000 0)), (2, iD p2)] [(90000, .box [.own 90001, .own 90002, .own 90003]), (90001, .vec 1 (p1.fd.map Ak)), (90002, .vec 1 (p1.fa.map Ak)), (90003, .vec 1 (p1.fe.map Bn))] rfl rfl) (Ab (Aa Ac rfl (qb rfl (qa rfl (Ae (Ab (Aa Ac rfl (qf Dc rfl (ql Ia rfl (qm rfl ?_))))))))))
 obtain ⟨v1, a1, b1, h⟩ := Aj h
 refine qi EG EO a1 (Ag b1) rfl (qK Io EO rfl (qz LX rfl (qs EO rfl (Ae (Ab (Ab (Aa Ac rfl (qL Io EO rfl ?_))))))))
 obtain ⟨v2, a2, h⟩ := bind_some h
 refine AJ [] (LL N v1 v2 a2) X8 rfl (BW rfl (Ae ?_))
 refine Ap rfl (fun c3 => ?_) (fun c3 => ?_)
 ·have h := Ao c3 h
  refine Ab (Aa Ac rfl (qa rfl (Ae ?_)))
  obtain rfl := sj h
  refine Am (sm [] [(6, bD false)] [(90000, .box [.own 90001, .own 90002, .own 90003]), (90001, .vec 1 (p1.fd.map Ak)), (90002, .vec 1 (p1.fa.map Ak)), (90003, .vec 1 (p1.fe.map Bn))] rfl rfl) (AA ?_)
  exact ⟨⟨[_], ⟨.tmp _ _ rfl, tv⟩, rfl⟩, ⟨rfl, rfl, rfl, rfl, tv⟩, tv⟩
 ·have h := An c3 h
  refine Aq (Ab (Aa Ac rfl (qm rfl (O2 rfl (qL A7 Az rfl (qf DI rfl (ql Cm rfl ?_)))))))
  obtain ⟨v4, a4, h⟩ := bind_some h
  refine Dj [] [90001, 90002, 90003] (N3 N p1 v1.fi v4 a4) Zs B4 rfl (qa rfl (AB (by kernel_rfl) (Ab (Aa Ac rfl (qm rfl (O2 rfl (qf CU rfl (ql Hb rfl (qm rfl ?_)))))))))
  obtain ⟨v5, a5, b5, h⟩ := Aj h
  refine qI Dr F5 a5 (Ag b5) rfl (qj Ky (Ag b5) rfl (qm rfl (Jp rfl (qa rfl (Ae (Ab ?_))))))
  refine AO h (fun v6 => mk [(1, oD (.ptr 90000 0)), (2, iD p2), (8, pD (.val (.int .u8 v4))), (60, bD v6)] [(90000, .box [.own 90001, .own 90002, .own 90003]), (90001, .vec 1 (p1.fd.map Ak)), (90002, .vec 1 (p1.fa.map Ak)), (90003, .vec 1 (p1.fe.map Bn))]) (fun j6 h => ?_) (fun v6 h => ?_)
  ·refine Aa Ac rfl (qm rfl (O2 rfl (qf CU rfl (ql Hb rfl (qm rfl ?_)))))
   obtain ⟨v7, a7, b7, h⟩ := Aj h
   refine qI Dr F5 a7 (Ag b7) rfl (qj Ky (Ag b7) rfl (qm rfl (BK rfl (qm rfl ?_))))
   refine AF (t := 42) rfl (fun c8 => ?_) (fun c8 => ?_)
   ·have h := Ao c8 h
    refine qn rfl (qn rfl (qn rfl (qn rfl (qu rfl (qu rfl (qu rfl (qu rfl (qu rfl (qu rfl (qu rfl (qu rfl (qu rfl (qu rfl (qu rfl (qu rfl (qn rfl (qp rfl (AB (by kernel_rfl) ?_))))))))))))))))))
    exact Au _ h (sm [] _ _ rfl rfl)
   ·have h := An c8 h
    refine qf Gx rfl (ql Cm rfl (BK rfl (qm rfl ?_)))
    refine AF (t := 46) rfl (fun c9 => ?_) (fun c9 => ?_)
    ·have h := Ao c9 h
     refine qL Io EO rfl (qm rfl (qm rfl (O2 rfl (qf CO rfl (ql Bo rfl (qf DI rfl (ql Cm rfl ?_)))))))
     obtain ⟨v10, a10, b10, h⟩ := Aj h
     refine qI AL Du a10 (Ag b10) rfl (qj Cm (Ag b10) rfl ?_)
     obtain ⟨v11, a11, h⟩ := bind_some h
     refine AJ [] (MN N v1 ((DF .u8 v5 v4)) v10 v11 a11) aJ rfl (BW rfl (qp rfl (qp rfl (AB (by kernel_rfl) ?_))))
     exact Au _ h (sm [] _ _ rfl rfl)
    ·have h := An c9 h
     refine qn rfl (qn rfl (qn rfl (qn rfl (qn rfl (qn rfl (qn rfl (qn rfl (qn rfl (qn rfl (qn rfl (qn rfl (qp rfl (qp rfl (AB (by kernel_rfl) ?_))))))))))))))
     exact Au _ h (sm [] _ _ rfl rfl)
  ·refine Ap rfl (fun c12 => ?_) (fun c12 => ?_)
   ·have h := Ao c12 h
    refine Ab (Aa Ac rfl (qa rfl (Ae ?_)))
    obtain rfl := sj h
    refine Am (sm [] [(6, bD false)] [(90000, .box [.own 90001, .own 90002, .own 90003]), (90001, .vec 1 (p1.fd.map Ak)), (90002, .vec 1 (p1.fa.map Ak)), (90003, .vec 1 (p1.fe.map Bn))] rfl rfl) (AA ?_)
    exact ⟨⟨[_], ⟨.tmp _ _ rfl, tv⟩, rfl⟩, ⟨rfl, rfl, rfl, rfl, tv⟩, tv⟩
   ·have h := An c12 h
    refine Aq (Ab (Aa Ac rfl (qm rfl (O2 rfl (qf CU rfl (ql Hb rfl (qm rfl (qm rfl ?_))))))))
    obtain ⟨v13, a13, b13, h⟩ := Aj h
    refine qI Dr F5 a13 (Ag b13) rfl ?_
    refine AY rfl rfl rfl rfl (Ag b13) rfl F5 rfl (A6 rfl) (AZ Bn p1.fe _ v4) ?_
    refine Ae (Ab (Aa Ac rfl (qa rfl (Ae ?_))))
    obtain rfl := sj h
    refine Am (sm [] [(6, bD true)] [(90000, .box [.own 90001, .own 90002, .own 90003]), (90001, .vec 1 (p1.fd.map Ak)), (90002, .vec 1 (p1.fa.map Ak)), (90003, .vec 1 ((p1.fe.set ((p2).toNat) v4).map Bn))] rfl rfl) (AA ?_)
    exact ⟨⟨[_], ⟨.tmp _ _ rfl, tv⟩, rfl⟩, ⟨rfl, rfl, rfl, rfl, tv⟩, tv⟩
theorem ML (N : Nat) (p0 : Ah) (p1 : Af) (p2 : As) (r : Af × Bool) (h : FM N p0 p1 p2 = some r) : AD Tryz.prog 97 [.e (.agg [sC (p0.fb.map Ak), sC (p0.ff.map Ak), sC (p0.fh.map Ak), sC (p0.fc.map Ar)]), .e (.agg [sC (p1.fd.map Ak), sC (p1.fa.map Ak), sC (p1.fe.map Bn)]), .e (.agg [iC p2.fg, iC p2.fj, iC p2.fo])] [(1, r.1.fd.map Ak), (1, r.1.fa.map Ak), (1, r.1.fe.map Bn)] (.tup [.agg [.own 0, .own 1, .own 2], .one (.pure (.val (.bool r.2)))]) := by
 unfold FM at h
 refine Av (n := 51) (rs := [.cell 6 46, .tmp 7]) Tryz.func97 rfl rfl rfl (A6 rfl) (A6 rfl) rfl fun w0 S0 => ?_
 refine Ab (Aa Ac rfl (qb rfl (qb rfl (qb rfl (qz Cw rfl (qa rfl (Ae (Ab (Aa Ac rfl (qL A7 Az rfl ?_))))))))))
 obtain ⟨v1, a1, h⟩ := bind_some h
 refine AJ [2001, 2002, 2003] (Pj N p1 v1 a1) ZF rfl (qz Cw rfl (qs Az rfl (Ae (Ab (Ab (Aa Ac rfl (qf Ge rfl (ql Cm rfl (Ae (AK (Ab (Aa Ac rfl (BK rfl (qa rfl (Ae ?_)))))))))))))))
 refine Ap rfl (fun c2 => ?_) (fun c2 => ?_)
 ·have h := Ao c2 h
  refine Ab (Aa Ac rfl (qL A7 Az rfl (qL DL Di rfl (qL I0 Fb rfl ?_))))
  obtain ⟨v3, a3, h⟩ := bind_some h
  refine BA (ds0 := [_, _, _]) [8, 2001, 2002, 2003] [] [false, false, true, true] (QE N p0 v1 p2 v3 a3) (.p rfl) Y3 rfl ⟨rfl, rfl, rfl, tv⟩ rfl rfl (by decide) ⟨rfl, rfl, rfl, rfl, tv⟩ rfl (A3 rfl) tv ⟨(fun _ => rfl), (fun _ => rfl), (fun h => by cases h), (fun h => by cases h), tv⟩ rfl rfl rfl ?_
  refine qs Az rfl (qa rfl (AB (by kernel_rfl) ?_))
  obtain rfl := sj h
  refine Am (sm [(1000, 2001), (1001, 2002), (1002, 2003)] [(6, oD (.ptr 6 0)), (7, bD v3.1)] [(6, .box [.own 1000, .own 1001, .own 1002]), (1000, .vec 1 (v1.fd.map Ak)), (1001, .vec 1 (v3.2.1.map Ak)), (1002, .vec 1 (v3.2.2.map Bn))] rfl rfl) (AA ?_)
  exact ⟨⟨[_, _], ⟨.cellN _ _ _ _ _ _ _ rfl rfl A7 Az rfl rfl (Jx rfl), ⟨.tmp _ _ rfl, tv⟩⟩, rfl⟩, ⟨rfl, rfl, rfl, tv⟩⟩
 ·have h := An c2 h
  refine Ab (Aa Ac rfl (BK rfl (qa rfl (Ae ?_))))
  refine Ap rfl (fun c4 => ?_) (fun c4 => ?_)
  ·have h := Ao c4 h
   refine Ab (Aa Ac rfl (qL A7 Az rfl (qL DL Di rfl (qf Fq rfl (ql Cm rfl ?_)))))
   obtain ⟨v5, a5, h⟩ := bind_some h
   refine BA (ds0 := [_, _, _]) [8, 2001, 2002, 2003] [] [false, false, false, true] (Qn N p0 v1 p2.fj v5 a5) (.p rfl) Zi rfl ⟨rfl, rfl, rfl, tv⟩ rfl rfl (by decide) ⟨rfl, rfl, rfl, rfl, tv⟩ rfl (A3 rfl) tv ⟨(fun _ => rfl), (fun _ => rfl), (fun _ => rfl), (fun h => by cases h), tv⟩ rfl rfl rfl ?_
   refine qs Az rfl (qa rfl (AB (by kernel_rfl) ?_))
   obtain rfl := sj h
   refine Am (sm [(1000, 2001), (1001, 2002), (1002, 2003)] [(6, oD (.ptr 6 0)), (7, bD v5.1)] [(6, .box [.own 1000, .own 1001, .own 1002]), (1000, .vec 1 (v1.fd.map Ak)), (1001, .vec 1 (v1.fa.map Ak)), (1002, .vec 1 (v5.2.map Bn))] rfl rfl) (AA ?_)
   exact ⟨⟨[_, _], ⟨.cellN _ _ _ _ _ _ _ rfl rfl A7 Az rfl rfl (Jx rfl), ⟨.tmp _ _ rfl, tv⟩⟩, rfl⟩, ⟨rfl, rfl, rfl, tv⟩⟩
  ·have h := An c4 h
   refine Aq (Ab (Aa Ac rfl (qf BH rfl (ql Bo rfl (qf Fq rfl (ql Cm rfl ?_))))))
   obtain ⟨v6, a6, b6, h⟩ := Aj h
   refine qI AL Du a6 (Ag b6) rfl (qj Cm (Ag b6) rfl (qa rfl (Ae (Ab (Ab (Aa Ac rfl (qm rfl (AX rfl (Ae ?_)))))))))
   refine Ap rfl (fun c7 => ?_) (fun c7 => ?_)
   ·have h := Ao c7 h
    refine Ab (Aa Ac rfl (qL A7 Az rfl (qs Az rfl (qa rfl (Ae ?_)))))
    obtain rfl := sj h
    refine Am (sm [(1000, 2001), (1001, 2002), (1002, 2003)] [(6, oD (.ptr 6 0)), (7, bD false)] [(6, .box [.own 1000, .own 1001, .own 1002]), (1000, .vec 1 (v1.fd.map Ak)), (1001, .vec 1 (v1.fa.map Ak)), (1002, .vec 1 (v1.fe.map Bn))] rfl rfl) (AA ?_)
    exact ⟨⟨[_, _], ⟨.cellN _ _ _ _ _ _ _ rfl rfl A7 Az rfl rfl (Jx rfl), ⟨.tmp _ _ rfl, tv⟩⟩, rfl⟩, ⟨rfl, rfl, rfl, tv⟩⟩
   ·have h := An c7 h
    refine Aq (Ab (Aa Ac rfl (qf BH rfl (ql Bo rfl (qf Fq rfl (ql Cm rfl ?_))))))
    obtain ⟨v8, a8, b8, h⟩ := Aj h
    refine qI AL Du a8 (Ag b8) rfl ?_
    refine AY rfl rfl rfl rfl (Ag b8) rfl Du rfl (A6 rfl) (AZ Ak v1.fa _ ((-1))) ?_
    refine Ae ?_
    refine AO h (fun v9 => mk [(6, oD (.ptr 6 0)), (8, oD (.ptr 8 0))] [(6, .box [.pure (.nil0), .pure (.nil0), .pure (.nil0)]), (8, .box [.own 2004, .own 2005, .own 2006]), (2004, .vec 1 (v9.map Ak)), (2005, .vec 1 ((v1.fa.set ((p2.fj).toNat) ((-1))).map Ak)), (2006, .vec 1 (v1.fe.map Bn))]) (fun j9 h => ?_) (fun v9 h => ?_)
    ·refine Ab (Aa Ac rfl (qf Ge rfl (ql Cm rfl (BK rfl (Ae ?_)))))
     refine Ap rfl (fun c10 => ?_) (fun c10 => ?_)
     ·have h := Ao c10 h
      refine Aa Ac rfl (qf CO rfl (ql Bo rfl (qf Fq rfl (ql Cm rfl (qm rfl ?_)))))
      obtain ⟨v11, a11, b11, h⟩ := Aj h
      refine qI AL Du a11 (Ag b11) rfl ?_
      refine AY rfl rfl rfl rfl (Ag b11) rfl Du rfl (A6 rfl) (AZ Ak v1.fd _ v6) ?_
      refine Ae ?_
      exact Au _ h (sm [(2004, 2001), (2005, 2002), (2006, 2003)] _ _ rfl rfl)
     ·have h := An c10 h
      refine Aq ?_
      exact Au _ h (sm [(2004, 2001), (2005, 2002), (2006, 2003)] _ _ rfl rfl)
    ·refine Ab (Aa Ac rfl (qL A7 Az rfl (qs Az rfl (qa rfl (Ae ?_)))))
     obtain rfl := sj h
     refine Am (sm [(1000, 2004), (1001, 2005), (1002, 2006)] [(6, oD (.ptr 6 0)), (7, bD true)] [(6, .box [.own 1000, .own 1001, .own 1002]), (1000, .vec 1 (v9.map Ak)), (1001, .vec 1 ((v1.fa.set ((p2.fj).toNat) ((-1))).map Ak)), (1002, .vec 1 (v1.fe.map Bn))] rfl rfl) (AA ?_)
     exact ⟨⟨[_, _], ⟨.cellN _ _ _ _ _ _ _ rfl rfl A7 Az rfl rfl (Jx rfl), ⟨.tmp _ _ rfl, tv⟩⟩, rfl⟩, ⟨rfl, rfl, rfl, tv⟩⟩
theorem MU (N : Nat) (p0 : As) (p1 : List Int) (p2 : List Int) (p3 : List Int) (p4 : List AQ) (p5 : List Int) (p6 : List Int) (p7 : List Int) (r : Bool) (h : DP N p0 p1 p2 p3 p4 p5 p6 p7 = some r) : AD Tryz.prog 96 [.e (.agg [iC p0.fg, iC p0.fj, iC p0.fo]), oD (.rop [.sl (p1.map Ak), .sl (p2.map Ak), .sl (p3.map Ak), .sl (p4.map Ar)]), oD (.rop [.sl (p5.map Ak), .sl (p6.map Ak), .sl (p7.map Bn)])] [] (bD r) := by
 unfold DP at h
 refine Av (n := 16) (rs := [.tmp 4]) Tryz.func96 rfl rfl rfl (A6 rfl) (A6 rfl) rfl fun w0 S0 => ?_
 refine Ab (Aa Ac rfl (qb rfl (qa rfl (Ae (Ab (Aa Ac rfl (qK DL Di rfl (qK A7 Az rfl (qL I0 Fb rfl ?_)))))))))
 obtain ⟨v1, a1, h⟩ := bind_some h
 refine AJ [2001, 2002, 2003] (ML N ((Ah.mk p1 p2 p3 p4)) ((Af.mk p5 p6 p7)) p0 v1 a1) ZR rfl (qm rfl (qx rfl (qx rfl (qz Cw rfl (qs Az rfl (qa rfl (Ae (Ab (Aa Ac rfl (qm rfl (BW rfl (qa rfl (Ae ?_)))))))))))))
 obtain rfl := sj h
 refine Am (sm [] [(4, bD ((!v1.2)))] [] rfl rfl) (AA ?_)
 exact ⟨⟨[_], ⟨.tmp _ _ rfl, tv⟩, rfl⟩, tv⟩
theorem G8 (N : Nat) (p0 : List As) (p1 : As → Option Bool) (r : Int) (h : B6 N p0 p1 = some r) : AD Tryz.prog 122 [pD (.sl (p0.map A4)), oD (.clo (Bb (Nw true A4) tB p1))] [] (iD r) := by
 unfold B6 at h
 refine Av (n := 19) (rs := [.tmp 4]) Tryz.func122 rfl rfl rfl (A6 rfl) (A6 rfl) rfl fun w0 S0 => ?_
 refine Ab (Aa Ac rfl (qa rfl (Ae (Ab (Ab (Aa Ac rfl (qm rfl (A1 Fm rfl (qm rfl (Ae ?_))))))))))
 refine AE (L := Bl N p0 p1) h (fun v1 => mk [(0, pD (.sl (p0.map A4))), (1, oD (.clo (Bb (Nw true A4) tB p1))), (7, iD ((p0.length : Int))), (8, iD v1)] []) (fun v2 => mk [] []) (fun _ _ => rfl) (sm [] _ _ rfl rfl) (fun j1 n1 v1 h => ?_) (fun v2 s h hs => ?_)
 ·unfold Bl at h
  refine Ab (Aa Ac rfl (AX rfl (Ae (Ab ?_))))
  refine Ap rfl (fun c3 => ?_) (fun c3 => ?_)
  ·have h := Ao c3 h
   refine Aq (Ab (AK (Ab (Aa Ac rfl (qm rfl (qa rfl (Ae (Ab (Aa Ac rfl (qm rfl (qm rfl (qm rfl ?_))))))))))))
   obtain ⟨v4, a4, b4, h⟩ := Aj h
   refine qi Fm Fb a4 (Ag b4) rfl (qK I0 Fb rfl ?_)
   obtain ⟨v5, a5, h⟩ := bind_some h
   refine CF (ds0 := [_]) (ar := (Nw true A4) v4) (.p rfl) rfl rfl ⟨rfl, tv⟩ rfl rfl rfl (CH (Mn _ _ Og) a5) ?_
   refine Ae ?_
   refine Ap rfl (fun c6 => ?_) (fun c6 => ?_)
   ·have h := Ao c6 h
    refine Ab (Aa Ac rfl (qm rfl (qa rfl (Ae ?_))))
    obtain rfl := sj h
    refine Am (sm [] [(4, iD v1)] [] rfl rfl) (AA ?_)
    exact ⟨⟨[_], ⟨.tmp _ _ rfl, tv⟩, rfl⟩, tv⟩
   ·have h := An c6 h
    refine Aq (Aa Ac rfl (AR rfl (qm rfl (Ae ?_))))
    exact Au _ h (sm [] _ _ rfl rfl)
  ·have h := An c3 h
   refine AS ?_
   exact Au _ h (sm [] _ _ rfl rfl)
 ·refine Am hs (Ab (Aa Ac rfl (qa rfl (Ae ?_))))
  obtain rfl := sj h
  refine Am (sm [] [(4, iD ((-1)))] [] rfl rfl) (AA ?_)
  exact ⟨⟨[_], ⟨.tmp _ _ rfl, tv⟩, rfl⟩, tv⟩
theorem G4 (N : Nat) (p0 : List As) (p1 : As → Option Bool) (r : Nat × (List As)) (h : B0 N p0 p1 = some r) : Bj Tryz.prog 94 [oD (.own 90000), oD (.clo (Bb (Nw true A4) tB p1))] [(.vec 3 (p0.map A4), .vec 3 (r.2.map A4))] [] (oD (.view 90000 3 0 r.1)) := by
 unfold B0 at h
 refine A9 (n := 42) (rs := [.tmp 4]) Tryz.func94 rfl rfl rfl (A6 rfl) (A6 rfl) rfl rfl (A6 rfl) rfl (A6 rfl) fun w0 S0 GL => ?_
 refine Am (sm [] [(0, oD (.own 90000)), (1, oD (.clo (Bb (Nw true A4) tB p1)))] [(90000, .vec 3 (p0.map A4))] rfl rfl) (Ab (Aa Ac rfl (qa rfl (Ae (Ab (Aa Ac rfl (qm rfl (qm rfl ?_))))))))
 obtain ⟨v1, a1, h⟩ := bind_some h
 refine Dj [] [90000] (G8 N p0 p1 v1 a1) Z4 B4 rfl (qa rfl (Ae (Ab (Ab (Aa Ac rfl (qm rfl (BK rfl (Ae ?_))))))))
 refine Ap rfl (fun c2 => ?_) (fun c2 => ?_)
 ·have h := Ao c2 h
  refine Ab (Aa Ac rfl (qm rfl (qa rfl (Ae ?_))))
  obtain rfl := sj h
  refine Am ((Qd A4 p0 4 90000 3 rfl rfl).trans (sm [] [(4, oD (.view 90000 3 0 p0.length))] [(90000, .vec 3 (p0.map A4))] rfl rfl)) (AA ?_)
  exact ⟨⟨[_], ⟨.tmp _ _ rfl, tv⟩, rfl⟩, ⟨rfl, tv⟩, tv⟩
 ·have h := An c2 h
  refine Aq (Ab (Ab (Aa Ac rfl (qm rfl (AR rfl (qa rfl (Ae ?_)))))))
  refine AE (L := Bd N p1) h (fun v3 => mk [(0, oD (.own 90000)), (1, oD (.clo (Bb (Nw true A4) tB p1))), (5, iD v3.2.1), (6, iD v3.2.2)] [(90000, .vec 3 (v3.1.map A4))]) (fun v4 => mk [(0, oD (.own 90000)), (5, iD v4.2)] [(90000, .vec 3 (v4.1.map A4))]) (fun _ _ => rfl) (sm [] _ _ rfl rfl) (fun j3 n3 v3 h => ?_) (fun v4 s h hs => ?_)
  ·unfold Bd at h
   refine Ab (Ab (Aa Ac rfl (qm rfl (qm rfl (EN Fm rfl (AX rfl (Ae ?_)))))))
   refine Ap rfl (fun c5 => ?_) (fun c5 => ?_)
   ·have h := Ao c5 h
    refine Aq ?_
    refine AO h (fun v6 => mk [(0, oD (.own 90000)), (1, oD (.clo (Bb (Nw true A4) tB p1))), (5, iD v6.2), (6, iD v3.2.2)] [(90000, .vec 3 (v6.1.map A4))]) (fun j6 h => ?_) (fun v6 h => ?_)
    ·refine AK (Ab (Aa Ac rfl (qm rfl (qm rfl ?_))))
     obtain ⟨v7, a7, b7, h⟩ := Aj h
     refine qI Fm Fb a7 (Ag b7) rfl (qJ I0 Fb (Ag b7) rfl (qz JU rfl (qs Fb rfl (Ae (Ab (Aa Ac rfl (qm rfl (qL I0 Fb rfl ?_))))))))
     obtain ⟨v8, a8, h⟩ := bind_some h
     refine CF (ds0 := [_]) (ar := (Nw true A4) v7) (.p rfl) rfl rfl ⟨rfl, tv⟩ rfl rfl rfl (CH (Mn _ _ Og) a8) ?_
     refine BW rfl (Ae ?_)
     refine Ap rfl (fun c9 => ?_) (fun c9 => ?_)
     ·have h := Ao c9 h
      refine Ab (Aa Ac rfl (qm rfl (qm rfl (qL I0 Fb rfl ?_))))
      obtain ⟨v10, a10, b10, h⟩ := Aj h
      refine qI Fm Fb a10 (Ag b10) rfl ?_
      refine AY rfl rfl rfl rfl (Ag b10) rfl Fb rfl (A6 rfl) (AZ A4 v3.1 _ v7) ?_
      refine Ae (Aa Ac rfl (qm rfl (AR rfl (qa rfl (Ae ?_)))))
      exact Au _ h (sm [] _ _ rfl rfl)
     ·have h := An c9 h
      refine Aq ?_
      exact Au _ h (sm [] _ _ rfl rfl)
    ·refine Aa Ac rfl (qm rfl (AR rfl (qa rfl (Ae ?_))))
     exact Au _ h (sm [] _ _ rfl rfl)
   ·have h := An c5 h
    refine AS ?_
    exact Au _ h (sm [] _ _ rfl rfl)
  ·refine Am hs (Ab (Aa Ac rfl (qm rfl (qm rfl ?_))))
   obtain ⟨c11, h⟩ := AU h
   have w12 : ((v4.2).toNat) + ((v4.1.length - (v4.2).toNat)) ≤ v4.1.length := by have := c11.2.1; have := c11.2.2; omega
   refine Je A4 v4.1 (.p rfl) rfl (Iz A4 _ _ v4.1) rfl Fm Fb (.some _ _ _ _ c11.1) (.none _) ⟨rfl, tv⟩ tv c11.2.1 (by rw [Nat.zero_add]; exact c11.2.2) (Nat.zero_add _) rfl ?_
   have w13 : (IZ v4.1 ((v4.2).toNat) (List.replicate ((v4.1.length - (v4.2).toNat)) ((As.mk 0 0 0)))).length = v4.1.length := I7 (by rw [List.length_replicate]; exact w12)
   refine Rx A4 v4.1 ((As.mk 0 0 0)) rfl rfl (MR A4 _ _ ((v4.2).toNat) ((v4.1.length - (v4.2).toNat)) v4.1 w12) rfl Fm JU rfl rfl rfl rfl ?_
   refine Ae (Ab (Aa Ac rfl (qm rfl (qm rfl ?_))))
   obtain ⟨c14, h⟩ := AU h
   have w15 : 0 + ((v4.2).toNat) ≤ (IZ v4.1 ((v4.2).toNat) (List.replicate ((v4.1.length - (v4.2).toNat)) ((As.mk 0 0 0)))).length := by have := c14.2.1; have := c14.2.2; omega
   refine Je A4 (IZ v4.1 ((v4.2).toNat) (List.replicate ((v4.1.length - (v4.2).toNat)) ((As.mk 0 0 0)))) (.p rfl) rfl (Iz A4 _ _ (IZ v4.1 ((v4.2).toNat) (List.replicate ((v4.1.length - (v4.2).toNat)) ((As.mk 0 0 0))))) rfl Fm Fb (.none _) (.some _ _ _ _ c14.1) tv ⟨rfl, tv⟩ c14.2.1 (by rw [Nat.zero_add]; exact c14.2.2) (Nat.zero_add _) rfl ?_
   refine qa rfl (Ae ?_)
   obtain rfl := sj h
   refine Am (sm [] [(4, oD (.view 90000 3 0 ((v4.2).toNat)))] [(90000, .vec 3 ((IZ v4.1 ((v4.2).toNat) (List.replicate ((v4.1.length - (v4.2).toNat)) ((As.mk 0 0 0)))).map A4))] rfl rfl) (AA ?_)
   exact ⟨⟨[_], ⟨.tmp _ _ rfl, tv⟩, rfl⟩, ⟨rfl, tv⟩, tv⟩
theorem Jo (N : Nat) (p0 : Ah) (p1 : Af) (r : (List As) × Int) (h : E7 N p0 p1 = some r) : AD Tryz.prog 48 [.e (.agg [sC (p0.fb.map Ak), sC (p0.ff.map Ak), sC (p0.fh.map Ak), sC (p0.fc.map Ar)]), .e (.agg [sC (p1.fd.map Ak), sC (p1.fa.map Ak), sC (p1.fe.map Bn)])] [(3, r.1.map A4)] (.tup [.one (.own 0), .one (iC r.2)]) := by
 unfold E7 at h
 refine Av (n := 17) (rs := [.tmp 4, .tmp 5]) Tryz.func48 rfl rfl rfl (A6 rfl) (A6 rfl) rfl fun w0 S0 => ?_
 refine Ab (Aa Ac rfl (qb rfl (qb rfl (qa rfl (qa rfl (Ae (Ab (Ab (Aa Ac rfl (qL DL Di rfl (qL A7 Az rfl ?_)))))))))))
 obtain ⟨v1, a1, h⟩ := bind_some h
 refine AJ [] (Iw N p0 p1 v1 a1) Vi rfl (qa rfl (Ae (Ab (Aa Ac rfl (qm rfl (Cp rfl (Ae ?_)))))))
 refine Ap rfl (fun c2 => ?_) (fun c2 => ?_)
 ·have h := Ao c2 h
  refine Ab (Aa Ac rfl (qm rfl (qa rfl (qa rfl (Ae ?_)))))
  obtain rfl := sj h
  refine Am ((Bu 4 2001 3 rfl rfl rfl).trans (sm [(1000, 2001)] [(4, oD (.own 1000)), (5, iD v1)] [(1000, .vec 3 ((([] : List As)).map A4))] rfl rfl)) (AA ?_)
  exact ⟨⟨[_, _], ⟨.tmp _ _ rfl, ⟨.tmp _ _ rfl, tv⟩⟩, rfl⟩, ⟨rfl, tv⟩⟩
 ·have h := An c2 h
  refine Aq (Ab (Aa Ac rfl (qL DL Di rfl ?_)))
  obtain ⟨v3, a3, h⟩ := bind_some h
  refine AJ [2002] (S6 N p0 v3 a3) bW rfl (DT (MB 2 [.sl (p0.fb.map Ak), .sl (p0.ff.map Ak), .sl (p0.fh.map Ak), .sl (p0.fc.map Ar)] rfl rfl) (DT (MB 3 [.sl (p1.fd.map Ak), .sl (p1.fa.map Ak), .sl (p1.fe.map Bn)] rfl rfl) ?_))
  refine LN (capD := [_, _]) (Bb (Nw true A4) tB ((fun (x : As) => DP N x p0.fb p0.ff p0.fh p0.fc p1.fd p1.fa p1.fe))) (.p rfl) bn rfl ⟨rfl, rfl, tv⟩ rfl (fun ar t ht => by obtain ⟨x, r, rfl, hq, rfl⟩ := Ij ht; exact MU N x p0.fb p0.ff p0.fh p0.fc p1.fd p1.fa p1.fe r hq) ?_
  obtain ⟨v4, a4, h⟩ := bind_some h
  obtain ⟨c5, h⟩ := AU h
  have w6 : 0 + v4.1 ≤ v4.2.length := by rw [Nat.zero_add]; exact c5
  refine BA (ds0 := [_, _]) [2002] [] [true] (G4 N v3 ((fun (x : As) => DP N x p0.fb p0.ff p0.fh p0.fc p1.fd p1.fa p1.fe)) v4 a4) (.p rfl) bG rfl ⟨rfl, rfl, tv⟩ rfl rfl (by decide) ⟨rfl, tv⟩ rfl (A3 rfl) tv ⟨(fun h => by cases h), tv⟩ rfl rfl rfl ?_
  refine DT (VI A4 v4.2 16 2002 2003 3 v4.1 rfl rfl rfl rfl rfl c5) (qa rfl (qa rfl (Ae ?_)))
  obtain rfl := sj h
  refine Am (sm [(1000, 2003)] [(4, oD (.own 1000)), (5, iD 0)] [(1000, .vec 3 ((v4.2.take v4.1).map A4))] rfl rfl) (AA ?_)
  exact ⟨⟨[_, _], ⟨.tmp _ _ rfl, ⟨.tmp _ _ rfl, tv⟩⟩, rfl⟩, ⟨rfl, tv⟩⟩
theorem QQ (N : Nat) (p0 : As) (r : Bool) (h : Ha N p0 = some r) : AD Tryz.prog 126 [.e (.agg [iC p0.fg, iC p0.fj, iC p0.fo])] [] (bD r) := by
 unfold Ha at h
 refine Av (n := 27) (rs := [.tmp 2]) Tryz.func126 rfl rfl rfl (A6 rfl) (A6 rfl) rfl fun w0 S0 => ?_
 refine Ab (Aa Ac rfl (qb rfl (qa rfl (Ae (Ab ?_)))))
 refine AO h (fun v1 => mk [(1, oD (.ptr 1 0)), (18, bD v1)] [(1, .box [iC p0.fg, iC p0.fj, iC p0.fo])]) (fun j1 h => ?_) (fun v1 h => ?_)
 ·refine Aa Ac rfl (qf Fq rfl (ql Cm rfl (qf Hs rfl (ql Cm rfl ?_))))
  refine ZD (.p rfl) rfl rfl ?_
  refine AX rfl (qm rfl ?_)
  refine AF (t := 9) rfl (fun c2 => ?_) (fun c2 => ?_)
  ·have h := Ao c2 h
   refine qn rfl (qn rfl (qn rfl (qp rfl (qm rfl (qn rfl (qn rfl (qn rfl (qp rfl (Ae ?_)))))))))
   exact Au _ h (sm [] _ _ rfl rfl)
  ·have h := An c2 h
   refine qf Ge rfl (ql Cm rfl (AX rfl (qp rfl (qm rfl ?_))))
   refine AF (t := 14) rfl (fun c3 => ?_) (fun c3 => ?_)
   ·have h := Ao c3 h
    refine qn rfl (qn rfl (qn rfl (qp rfl (Ae ?_))))
    exact Au _ h (sm [] _ _ rfl rfl)
   ·have h := An c3 h
    refine qf Ge rfl (ql Cm rfl (E2 rfl (qp rfl (Ae ?_))))
    exact Au _ h (sm [] _ _ rfl rfl)
 ·refine Ap rfl (fun c4 => ?_) (fun c4 => ?_)
  ·have h := Ao c4 h
   refine Ab (Aa Ac rfl (qa rfl (Ae ?_)))
   obtain rfl := sj h
   refine Am (sm [] [(2, bD false)] [] rfl rfl) (AA ?_)
   exact ⟨⟨[_], ⟨.tmp _ _ rfl, tv⟩, rfl⟩, tv⟩
  ·have h := An c4 h
   refine Aq ?_
   refine AO h (fun v5 => mk [(2, bD v5)] []) (fun j5 h => ?_) (fun v5 h => ?_)
   ·refine Aa Ac rfl (qf Ge rfl (ql Cm rfl (BK rfl (qm rfl ?_))))
    refine AF (t := 22) rfl (fun c6 => ?_) (fun c6 => ?_)
    ·have h := Ao c6 h
     refine qn rfl (qn rfl (qn rfl (qp rfl (qa rfl (Ae ?_)))))
     exact Au _ h (sm [] _ _ rfl rfl)
    ·have h := An c6 h
     refine qf Hs rfl (ql Cm rfl (BK rfl (qp rfl (qa rfl (Ae ?_)))))
     exact Au _ h (sm [] _ _ rfl rfl)
   ·obtain rfl := sj h
    refine Am (sm [] [(2, bD v5)] [] rfl rfl) (AA ?_)
    exact ⟨⟨[_], ⟨.tmp _ _ rfl, tv⟩, rfl⟩, tv⟩
theorem Pt (N : Nat) (p0 : Ah) (p1 : As) (r : Bool) (h : GJ N p0 p1 = some r) : AD Tryz.prog 127 [.e (.agg [sC (p0.fb.map Ak), sC (p0.ff.map Ak), sC (p0.fh.map Ak), sC (p0.fc.map Ar)]), .e (.agg [iC p1.fg, iC p1.fj, iC p1.fo])] [] (bD r) := by
 unfold GJ at h
 refine Av (n := 36) (rs := [.tmp 4]) Tryz.func127 rfl rfl rfl (A6 rfl) (A6 rfl) rfl fun w0 S0 => ?_
 refine Ab (Aa Ac rfl (qb rfl (qb rfl (qa rfl (Ae (Ab (Ab (Aa Ac rfl (qf Ge rfl (ql Cm rfl (BK rfl (Ae ?_))))))))))))
 refine Ap rfl (fun c1 => ?_) (fun c1 => ?_)
 ·have h := Ao c1 h
  refine Ab (Aa Ac rfl (qf Fq rfl (ql Cm rfl (qf Dc rfl (ql Ia rfl (A1 EG rfl (AX rfl (qa rfl (Ae ?_)))))))))
  obtain rfl := sj h
  refine Am (sm [] [(4, bD ((decide (p1.fj < (p0.fc.length : Int)))))] [] rfl rfl) (AA ?_)
  exact ⟨⟨[_], ⟨.tmp _ _ rfl, tv⟩, rfl⟩, tv⟩
 ·have h := An c1 h
  refine Aq ?_
  refine AO h (fun v2 => mk [(4, bD v2)] []) (fun j2 h => ?_) (fun v2 h => ?_)
  ·refine Aa Ac rfl (qf Fq rfl (ql Cm rfl (qf BO rfl (ql Bo rfl (A1 AL rfl (AX rfl (qm rfl ?_)))))))
   refine AF (t := 20) rfl (fun c3 => ?_) (fun c3 => ?_)
   ·have h := Ao c3 h
    refine qf Ge rfl (ql Cm rfl (Cp rfl (qm rfl ?_)))
    refine AF (t := 24) rfl (fun c4 => ?_) (fun c4 => ?_)
    ·have h := Ao c4 h
     refine qn rfl (qn rfl (qn rfl (qn rfl (qn rfl (qn rfl (qn rfl (qn rfl (qn rfl (qp rfl (qp rfl (qa rfl (AB (by kernel_rfl) ?_))))))))))))
     exact Au _ h (sm [] _ _ rfl rfl)
    ·have h := An c4 h
     refine qf Hs rfl (ql Cm rfl (qf BO rfl (ql Bo rfl (qf Fq rfl (ql Cm rfl ?_)))))
     obtain ⟨v5, a5, b5, h⟩ := Aj h
     refine qi AL Du a5 (Ag b5) rfl (qk Cm rfl (AX rfl (qp rfl (qp rfl (qa rfl (AB (by kernel_rfl) ?_))))))
     exact Au _ h (sm [] _ _ rfl rfl)
   ·have h := An c3 h
    refine qn rfl (qn rfl (qn rfl (qn rfl (qu rfl (qu rfl (qu rfl (qu rfl (qu rfl (qu rfl (qu rfl (qu rfl (qu rfl (qn rfl (qp rfl (qa rfl (AB (by kernel_rfl) ?_))))))))))))))))
    exact Au _ h (sm [] _ _ rfl rfl)
  ·obtain rfl := sj h
   refine Am (sm [] [(4, bD v2)] [] rfl rfl) (AA ?_)
   exact ⟨⟨[_], ⟨.tmp _ _ rfl, tv⟩, rfl⟩, tv⟩
theorem QR (N : Nat) (p0 : Ah) (p1 : Af) (p2 : As) (r : Af × Int) (h : Hc N p0 p1 p2 = some r) : AD Tryz.prog 98 [.e (.agg [sC (p0.fb.map Ak), sC (p0.ff.map Ak), sC (p0.fh.map Ak), sC (p0.fc.map Ar)]), .e (.agg [sC (p1.fd.map Ak), sC (p1.fa.map Ak), sC (p1.fe.map Bn)]), .e (.agg [iC p2.fg, iC p2.fj, iC p2.fo])] [(1, r.1.fd.map Ak), (1, r.1.fa.map Ak), (1, r.1.fe.map Bn)] (.tup [.agg [.own 0, .own 1, .own 2], .one (iC r.2)]) := by
 unfold Hc at h
 refine Av (n := 32) (rs := [.cell 6 46, .tmp 7]) Tryz.func98 rfl rfl rfl (A6 rfl) (A6 rfl) rfl fun w0 S0 => ?_
 refine Ab (Aa Ac rfl (qb rfl (qb rfl (qb rfl (qz Cw rfl (qa rfl (Ae (Ab (AK (Ab (Aa Ac rfl (qL I0 Fb rfl ?_))))))))))))
 obtain ⟨v1, a1, h⟩ := bind_some h
 refine AJ [] (QQ N p2 v1 a1) Zy rfl (BW rfl (qa rfl (Ae ?_)))
 refine Ap rfl (fun c2 => ?_) (fun c2 => ?_)
 ·have h := Ao c2 h
  refine Ab (Aa Ac rfl (Bz Cw HB rfl (qs Az rfl (qa rfl (Ae ?_)))))
  obtain rfl := sj h
  refine Am ((AH 6 0 2001 1 _ rfl rfl rfl rfl).trans ((AH 6 1 2002 1 _ rfl rfl rfl rfl).trans ((AH 6 2 2003 1 _ rfl rfl rfl rfl).trans (sm [(1000, 2001), (1001, 2002), (1002, 2003)] [(6, oD (.ptr 6 0)), (7, iD 1)] [(6, .box [.own 1000, .own 1001, .own 1002]), (1000, .vec 1 ((([] : List Int)).map Ak)), (1001, .vec 1 ((([] : List Int)).map Ak)), (1002, .vec 1 ((([] : List Int)).map Bn))] rfl rfl)))) (AA ?_)
  exact ⟨⟨[_, _], ⟨.cellN _ _ _ _ _ _ _ rfl rfl A7 Az rfl rfl (Jx rfl), ⟨.tmp _ _ rfl, tv⟩⟩, rfl⟩, ⟨rfl, rfl, rfl, tv⟩⟩
 ·have h := An c2 h
  refine Ab (Aa Ac rfl (qL DL Di rfl (qL I0 Fb rfl ?_)))
  obtain ⟨v3, a3, h⟩ := bind_some h
  refine AJ [] (Pt N p0 p2 v3 a3) ae rfl (BW rfl (qa rfl (Ae ?_)))
  refine Ap rfl (fun c4 => ?_) (fun c4 => ?_)
  ·have h := Ao c4 h
   refine Ab (Aa Ac rfl (Bz Cw HB rfl (qs Az rfl (qa rfl (Ae ?_)))))
   obtain rfl := sj h
   refine Am ((AH 6 0 2004 1 _ rfl rfl rfl rfl).trans ((AH 6 1 2005 1 _ rfl rfl rfl rfl).trans ((AH 6 2 2006 1 _ rfl rfl rfl rfl).trans (sm [(1000, 2004), (1001, 2005), (1002, 2006)] [(6, oD (.ptr 6 0)), (7, iD 4)] [(6, .box [.own 1000, .own 1001, .own 1002]), (1000, .vec 1 ((([] : List Int)).map Ak)), (1001, .vec 1 ((([] : List Int)).map Ak)), (1002, .vec 1 ((([] : List Int)).map Bn))] rfl rfl)))) (AA ?_)
   exact ⟨⟨[_, _], ⟨.cellN _ _ _ _ _ _ _ rfl rfl A7 Az rfl rfl (Jx rfl), ⟨.tmp _ _ rfl, tv⟩⟩, rfl⟩, ⟨rfl, rfl, rfl, tv⟩⟩
  ·have h := An c4 h
   refine Aq (Ab (Aa Ac rfl (qL DL Di rfl (qL A7 Az rfl (qL I0 Fb rfl ?_)))))
   obtain ⟨v5, a5, h⟩ := bind_some h
   refine AJ [2007, 2008, 2009] (ML N p0 p1 p2 v5 a5) ZR rfl (qm rfl (qx rfl (qx rfl (qz Cw rfl (qs Az rfl (qa rfl (Ae (Ab (Ab (Aa Ac rfl (qm rfl (BW rfl (Ae ?_)))))))))))))
   refine Ap rfl (fun c6 => ?_) (fun c6 => ?_)
   ·have h := Ao c6 h
    refine Ab (Aa Ac rfl (Bz Cw HB rfl (qs Az rfl (qa rfl (Ae ?_)))))
    obtain rfl := sj h
    refine Am ((AH 6 0 2010 1 _ rfl rfl rfl rfl).trans ((AH 6 1 2011 1 _ rfl rfl rfl rfl).trans ((AH 6 2 2012 1 _ rfl rfl rfl rfl).trans (sm [(1000, 2010), (1001, 2011), (1002, 2012)] [(6, oD (.ptr 6 0)), (7, iD 11)] [(6, .box [.own 1000, .own 1001, .own 1002]), (1000, .vec 1 ((([] : List Int)).map Ak)), (1001, .vec 1 ((([] : List Int)).map Ak)), (1002, .vec 1 ((([] : List Int)).map Bn))] rfl rfl)))) (AA ?_)
    exact ⟨⟨[_, _], ⟨.cellN _ _ _ _ _ _ _ rfl rfl A7 Az rfl rfl (Jx rfl), ⟨.tmp _ _ rfl, tv⟩⟩, rfl⟩, ⟨rfl, rfl, rfl, tv⟩⟩
   ·have h := An c6 h
    refine Aq (Ab (Aa Ac rfl (qL A7 Az rfl (qs Az rfl (qa rfl (Ae ?_))))))
    obtain rfl := sj h
    refine Am (sm [(1000, 2007), (1001, 2008), (1002, 2009)] [(6, oD (.ptr 6 0)), (7, iD 0)] [(6, .box [.own 1000, .own 1001, .own 1002]), (1000, .vec 1 (v5.1.fd.map Ak)), (1001, .vec 1 (v5.1.fa.map Ak)), (1002, .vec 1 (v5.1.fe.map Bn))] rfl rfl) (AA ?_)
    exact ⟨⟨[_, _], ⟨.cellN _ _ _ _ _ _ _ rfl rfl A7 Az rfl rfl (Jx rfl), ⟨.tmp _ _ rfl, tv⟩⟩, rfl⟩, ⟨rfl, rfl, rfl, tv⟩⟩
theorem Km (N : Nat) (p0 : Ah) (p1 : Af) (p2 : As) (r : Af × Int) (h : FP N p0 p1 p2 = some r) : AD Tryz.prog 49 [.e (.agg [sC (p0.fb.map Ak), sC (p0.ff.map Ak), sC (p0.fh.map Ak), sC (p0.fc.map Ar)]), .e (.agg [sC (p1.fd.map Ak), sC (p1.fa.map Ak), sC (p1.fe.map Bn)]), .e (.agg [iC p2.fg, iC p2.fj, iC p2.fo])] [(1, r.1.fd.map Ak), (1, r.1.fa.map Ak), (1, r.1.fe.map Bn)] (.tup [.agg [.own 0, .own 1, .own 2], .one (iC r.2)]) := by
 unfold FP at h
 refine Av (n := 22) (rs := [.cell 6 46, .tmp 7]) Tryz.func49 rfl rfl rfl (A6 rfl) (A6 rfl) rfl fun w0 S0 => ?_
 refine Ab (Aa Ac rfl (qb rfl (qb rfl (qb rfl (qz Cw rfl (qa rfl (Ae (Ab (Ab (Aa Ac rfl (qL DL Di rfl (qL A7 Az rfl ?_))))))))))))
 obtain ⟨v1, a1, h⟩ := bind_some h
 refine AJ [] (Iw N p0 p1 v1 a1) Vi rfl (qa rfl (Ae (Ab (Aa Ac rfl (qm rfl (Cp rfl (Ae ?_)))))))
 refine Ap rfl (fun c2 => ?_) (fun c2 => ?_)
 ·have h := Ao c2 h
  refine Ab (Aa Ac rfl (Bz Cw HB rfl (qm rfl (qs Az rfl (qa rfl (Ae ?_))))))
  obtain rfl := sj h
  refine Am ((AH 6 0 2001 1 _ rfl rfl rfl rfl).trans ((AH 6 1 2002 1 _ rfl rfl rfl rfl).trans ((AH 6 2 2003 1 _ rfl rfl rfl rfl).trans (sm [(1000, 2001), (1001, 2002), (1002, 2003)] [(6, oD (.ptr 6 0)), (7, iD v1)] [(6, .box [.own 1000, .own 1001, .own 1002]), (1000, .vec 1 ((([] : List Int)).map Ak)), (1001, .vec 1 ((([] : List Int)).map Ak)), (1002, .vec 1 ((([] : List Int)).map Bn))] rfl rfl)))) (AA ?_)
  exact ⟨⟨[_, _], ⟨.cellN _ _ _ _ _ _ _ rfl rfl A7 Az rfl rfl (Jx rfl), ⟨.tmp _ _ rfl, tv⟩⟩, rfl⟩, ⟨rfl, rfl, rfl, tv⟩⟩
 ·have h := An c2 h
  refine Aq (Ab (Aa Ac rfl (qL DL Di rfl (qL A7 Az rfl (qL I0 Fb rfl ?_)))))
  obtain ⟨v3, a3, h⟩ := bind_some h
  refine AJ [2004, 2005, 2006] (QR N p0 p1 p2 v3 a3) bf rfl (qx rfl (qx rfl (qs Az rfl (qa rfl (Ae ?_)))))
  obtain rfl := sj h
  refine Am (sm [(1000, 2004), (1001, 2005), (1002, 2006)] [(6, oD (.ptr 6 0)), (7, iD v3.2)] [(6, .box [.own 1000, .own 1001, .own 1002]), (1000, .vec 1 (v3.1.fd.map Ak)), (1001, .vec 1 (v3.1.fa.map Ak)), (1002, .vec 1 (v3.1.fe.map Bn))] rfl rfl) (AA ?_)
  exact ⟨⟨[_, _], ⟨.cellN _ _ _ _ _ _ _ rfl rfl A7 Az rfl rfl (Jx rfl), ⟨.tmp _ _ rfl, tv⟩⟩, rfl⟩, ⟨rfl, rfl, rfl, tv⟩⟩
theorem Qj (N : Nat) (p0 : Ah) (p1 : Af) (r : (List As) × (List Af)) (h : Hh N p0 p1 = some r) : AD Tryz.prog 85 [.e (.agg [sC (p0.fb.map Ak), sC (p0.ff.map Ak), sC (p0.fh.map Ak), sC (p0.fc.map Ar)]), .e (.agg [sC (p1.fd.map Ak), sC (p1.fa.map Ak), sC (p1.fe.map Bn)])] [(3, r.1.map A4), (3, r.2.map Ai)] (.tup [.one (.own 0), .one (.own 1)]) := by
 unfold Hh at h
 refine Av (n := 55) (rs := [.tmp 4, .tmp 5]) Tryz.func85 rfl rfl rfl (A6 rfl) (A6 rfl) rfl fun w0 S0 => ?_
 refine Ab (Aa Ac rfl (qb rfl (qb rfl (qa rfl (qa rfl (Ae (Ab (Aa Ac rfl (qa rfl (Ae (Ab (Aa Ac rfl (qa rfl (Ae (Ab (Aa Ac rfl (qL DL Di rfl (qL A7 Az rfl ?_))))))))))))))))))
 obtain ⟨v1, a1, h⟩ := bind_some h
 refine AJ [2001] (Jo N p0 p1 v1 a1) Yb rfl (qm rfl (qx rfl (qx rfl (qa rfl (qa rfl (Ae (Ab (Ab (Aa Ac rfl (qm rfl (EN Fm rfl (qm rfl (Ae ?_)))))))))))))
 refine AE (L := Fh N p0 p1 v1) h (fun v2 => mk [(2, oD (.ptr 2 0)), (3, oD (.ptr 3 0)), (6, oD (.own 2002)), (7, oD (.own 2003)), (22, oD (.own 2004)), (23, iD ((v1.1.length : Int))), (24, iD v2.2.2)] [(2, .box [sC (p0.fb.map Ak), sC (p0.ff.map Ak), sC (p0.fh.map Ak), sC (p0.fc.map Ar)]), (3, .box [sC (p1.fd.map Ak), sC (p1.fa.map Ak), sC (p1.fe.map Bn)]), (2002, .vec 3 (v2.1.map A4)), (2003, .vec 3 (v2.2.1.map Ai)), (2004, .vec 3 (v1.1.map A4))]) (fun v3 => mk [(6, oD (.own 2005)), (7, oD (.own 2006))] [(2005, .vec 3 (v3.1.map A4)), (2006, .vec 3 (v3.2.map Ai))]) (fun _ _ => rfl) ((Bu 6 2013 3 rfl rfl rfl).trans ((Bu 7 2014 3 rfl rfl rfl).trans (sm [(2002, 2013), (2003, 2014), (2004, 2001)] _ _ rfl rfl))) (fun j2 n2 v2 h => ?_) (fun v3 s h hs => ?_)
 ·unfold Fh at h
  refine Ab (Aa Ac rfl (AX rfl (Ae (Ab ?_))))
  refine Ap rfl (fun c4 => ?_) (fun c4 => ?_)
  ·have h := Ao c4 h
   refine Aq ?_
   refine AO h (fun v5 => mk [(2, oD (.ptr 2 0)), (3, oD (.ptr 3 0)), (6, oD (.own 2007)), (7, oD (.own 2008)), (22, oD (.own 2009)), (23, iD ((v1.1.length : Int))), (24, iD v2.2.2)] [(2, .box [sC (p0.fb.map Ak), sC (p0.ff.map Ak), sC (p0.fh.map Ak), sC (p0.fc.map Ar)]), (3, .box [sC (p1.fd.map Ak), sC (p1.fa.map Ak), sC (p1.fe.map Bn)]), (2007, .vec 3 (v5.1.map A4)), (2008, .vec 3 (v5.2.map Ai)), (2009, .vec 3 (v1.1.map A4))]) (fun j5 h => ?_) (fun v5 h => ?_)
   ·refine AK (Ab (Aa Ac rfl ?_))
    obtain ⟨v6, a6, b6, h⟩ := Aj h
    refine qI Fm Fb a6 (Ag b6) rfl (qJ I0 Fb (Ag b6) rfl (qz JU rfl (qs Fb rfl (Ae (Ab (Aa Ac rfl (qL DL Di rfl (qL A7 Az rfl (qL I0 Fb rfl ?_)))))))))
    obtain ⟨v7, a7, h⟩ := bind_some h
    refine AJ [2010, 2011, 2012] (Km N p0 p1 v6 v7 a7) Yo rfl (qm rfl (qx rfl (qx rfl (qz Cw rfl (qs Az rfl (qa rfl (Ae (Ab (Ab (Aa Ac rfl (qm rfl (Cp rfl (Ae ?_)))))))))))))
    refine Ap rfl (fun c8 => ?_) (fun c8 => ?_)
    ·have h := Ao c8 h
     refine AS ?_
     exact Au _ h (sm [(2007, 2002), (2008, 2003), (2009, 2004)] _ _ rfl rfl)
    ·have h := An c8 h
     refine Aq (Ab (Aa Ac rfl (qL DL Di rfl (qL A7 Az rfl ?_))))
     obtain ⟨v9, a9, h⟩ := bind_some h
     refine Dj [] [2010, 2011, 2012] (H4 N p0 v7.1 v9 a9) V3 B4 rfl (qm rfl (qx rfl (qx rfl (qa rfl (qa rfl (Ae (Ab (Aa Ac rfl (qm rfl (Ae ?_))))))))))
     refine Ap rfl (fun c10 => ?_) (fun c10 => ?_)
     ·have h := Ao c10 h
      refine Am (Bk 2010 _ _ rfl rfl) (Am (Bk 2011 _ _ rfl rfl) (Am (Bk 2012 _ _ rfl rfl) (Aa Ac rfl (qm rfl (qL I0 Fb rfl (DY Fm Fb JU rfl ?_))))))
      obtain ⟨c11, h⟩ := AU h
      refine DO (f := A4) Fm Fm Fb Sf JU c11 rfl (qm rfl (qL A7 Az rfl (DY AV Az Cw rfl ?_)))
      obtain ⟨c12, h⟩ := AU h
      refine DO (f := Ai) AV AV Az Ng Cw c12 rfl (qa rfl (qa rfl (AB (by kernel_rfl) ?_)))
      exact Au _ h (sm [(2007, 47), (2008, 51), (2009, 2004)] _ _ rfl rfl)
     ·have h := An c10 h
      refine Aq ?_
      exact Au _ h (sm [(2007, 2002), (2008, 2003), (2009, 2004)] _ _ rfl rfl)
   ·refine Aa Ac rfl (AR rfl (qm rfl (Ae ?_)))
    exact Au _ h (sm [(2002, 2007), (2003, 2008), (2004, 2009)] _ _ rfl rfl)
  ·have h := An c4 h
   refine AS ?_
   exact Au _ h (sm [(2005, 2002), (2006, 2003)] _ _ rfl rfl)
 ·refine Am hs (Ab (Aa Ac rfl (qm rfl (qm rfl (qa rfl (qa rfl (Ae ?_)))))))
  obtain rfl := sj h
  refine Am (sm [(1000, 2005), (1001, 2006)] [(4, oD (.own 1000)), (5, oD (.own 1001))] [(1000, .vec 3 (v3.1.map A4)), (1001, .vec 3 (v3.2.map Ai))] rfl rfl) (AA ?_)
  exact ⟨⟨[_, _], ⟨.tmp _ _ rfl, ⟨.tmp _ _ rfl, tv⟩⟩, rfl⟩, ⟨rfl, rfl, tv⟩⟩
theorem MC (N : Nat) (p0 : Int) (r : Int) (h : Hu N p0 = some r) : AD Tryz.prog 140 [pD (.val (.int .u32 p0))] [] (iD r) := by
 unfold Hu at h
 refine Av (n := 19) (rs := [.tmp 2]) Tryz.func140 rfl rfl rfl (A6 rfl) (A6 rfl) rfl fun w0 S0 => ?_
 refine Ab (Aa Ac rfl (qa rfl (Ae ?_)))
 refine AO h (fun v1 => mk [(0, pD (.val (.int .u32 v1.1))), (2, iD v1.2)] []) (fun j1 h => ?_) (fun v1 h => ?_)
 ·refine Ab (Aa Ac rfl (qm rfl (Cz rfl (Ae ?_))))
  refine Ap rfl (fun c2 => ?_) (fun c2 => ?_)
  ·have h := Ao c2 h
   refine Ab (Aa Ac rfl (qm rfl (HI rfl (by decide) (qa rfl (Ae (Aa Ac rfl (qa rfl (Ae ?_))))))))
   exact Au _ h (sm [] _ _ rfl rfl)
  ·have h := An c2 h
   refine Aq ?_
   exact Au _ h (sm [] _ _ rfl rfl)
 ·refine AO h (fun v3 => mk [(0, pD (.val (.int .u32 v3.1))), (2, iD v3.2)] []) (fun j3 h => ?_) (fun v3 h => ?_)
  ·refine Ab (Aa Ac rfl (qm rfl (Cz rfl (Ae ?_))))
   refine Ap rfl (fun c4 => ?_) (fun c4 => ?_)
   ·have h := Ao c4 h
    refine Ab (Aa Ac rfl (qm rfl (HI rfl (by decide) (qa rfl (Ae (Aa Ac rfl (qm rfl (AR rfl (qa rfl (Ae ?_))))))))))
    exact Au _ h (sm [] _ _ rfl rfl)
   ·have h := An c4 h
    refine Aq ?_
    exact Au _ h (sm [] _ _ rfl rfl)
  ·refine Ab (Aa Ac rfl (qm rfl (qm rfl (GY RT aS rfl ?_))))
   obtain ⟨v5, a5, h⟩ := bind_some h
   refine MX (.p rfl) rfl rfl Xe a5 ?_
   refine GY XU Ud rfl (AR rfl (qa rfl (Ae ?_)))
   obtain rfl := sj h
   refine Am (sm [] [(2, iD ((wI .i64 (v3.2 + (wI .i64 v5)))))] [] rfl rfl) (AA ?_)
   exact ⟨⟨[_], ⟨.tmp _ _ rfl, tv⟩, rfl⟩, tv⟩
theorem MF (N : Nat) (p0 : Int) (r : Int) (h : Hw N p0 = some r) : AD Tryz.prog 141 [pD (.val (.int .u64 p0))] [] (iD r) := by
 unfold Hw at h
 refine Av (n := 25) (rs := [.tmp 2]) Tryz.func141 rfl rfl rfl (A6 rfl) (A6 rfl) rfl fun w0 S0 => ?_
 refine Ab (Aa Ac rfl (qa rfl (Ae ?_)))
 refine AO h (fun v1 => mk [(0, pD (.val (.int .u64 v1.1))), (2, iD v1.2)] []) (fun j1 h => ?_) (fun v1 h => ?_)
 ·refine Ab (Aa Ac rfl (qm rfl (Cz rfl (Ae ?_))))
  refine Ap rfl (fun c2 => ?_) (fun c2 => ?_)
  ·have h := Ao c2 h
   refine Ab (Aa Ac rfl (qm rfl (HI rfl (by decide) (qa rfl (Ae (Aa Ac rfl (qa rfl (Ae ?_))))))))
   exact Au _ h (sm [] _ _ rfl rfl)
  ·have h := An c2 h
   refine Aq ?_
   exact Au _ h (sm [] _ _ rfl rfl)
 ·refine AO h (fun v3 => mk [(0, pD (.val (.int .u64 v3.1))), (2, iD v3.2)] []) (fun j3 h => ?_) (fun v3 h => ?_)
  ·refine Ab (Aa Ac rfl (qm rfl (Cz rfl (Ae ?_))))
   refine Ap rfl (fun c4 => ?_) (fun c4 => ?_)
   ·have h := Ao c4 h
    refine Ab (Aa Ac rfl (qm rfl (HI rfl (by decide) (qa rfl (Ae (Aa Ac rfl (qm rfl (AR rfl (qa rfl (Ae ?_))))))))))
    exact Au _ h (sm [] _ _ rfl rfl)
   ·have h := An c4 h
    refine Aq ?_
    exact Au _ h (sm [] _ _ rfl rfl)
  ·refine AO h (fun v5 => mk [(0, pD (.val (.int .u64 v5.1))), (2, iD v5.2)] []) (fun j5 h => ?_) (fun v5 h => ?_)
   ·refine Ab (Aa Ac rfl (qm rfl (Cz rfl (Ae ?_))))
    refine Ap rfl (fun c6 => ?_) (fun c6 => ?_)
    ·have h := Ao c6 h
     refine Ab (Aa Ac rfl (qm rfl (HI rfl (by decide) (qa rfl (Ae (Aa Ac rfl (qm rfl (AR rfl (qa rfl (Ae ?_))))))))))
     exact Au _ h (sm [] _ _ rfl rfl)
    ·have h := An c6 h
     refine Aq ?_
     exact Au _ h (sm [] _ _ rfl rfl)
   ·refine Ab (Aa Ac rfl (qm rfl (qm rfl (GY Wm aS rfl ?_))))
    obtain ⟨v7, a7, h⟩ := bind_some h
    refine MX (.p rfl) rfl rfl Xe a7 ?_
    refine GY XU Ud rfl (AR rfl (qa rfl (Ae ?_)))
    obtain rfl := sj h
    refine Am (sm [] [(2, iD ((wI .i64 (v5.2 + (wI .i64 v7)))))] [] rfl rfl) (AA ?_)
    exact ⟨⟨[_], ⟨.tmp _ _ rfl, tv⟩, rfl⟩, tv⟩
theorem II (N : Nat) (p0 : Int) (r : Int) (h : DH N p0 = some r) : AD Tryz.prog 105 [pD (.val (.int .u64 p0))] [] (iD r) := by
 unfold DH at h
 refine Av (n := 8) (rs := [.tmp 2]) Tryz.func105 rfl rfl rfl (A6 rfl) (A6 rfl) rfl fun w0 S0 => ?_
 refine Ab (Aa Ac rfl (qa rfl (Ae (Ab ?_))))
 refine Ap rfl (fun c1 => ?_) (fun c1 => ?_)
 ·have h := Ao c1 h
  refine Ab (Aa Ac rfl (qm rfl (GY N0 Ry rfl ?_)))
  obtain ⟨v2, a2, h⟩ := bind_some h
  refine AJ [] (MC N ((wI .u32 p0)) v2 a2) ax rfl (qa rfl (Ae ?_))
  obtain rfl := sj h
  refine Am (sm [] [(2, iD v2)] [] rfl rfl) (AA ?_)
  exact ⟨⟨[_], ⟨.tmp _ _ rfl, tv⟩, rfl⟩, tv⟩
 ·have h := An c1 h
  refine Aq (Ab (Aa Ac rfl (qm rfl ?_)))
  obtain ⟨v3, a3, h⟩ := bind_some h
  refine AJ [] (MF N p0 v3 a3) Zh rfl (qa rfl (Ae ?_))
  obtain rfl := sj h
  refine Am (sm [] [(2, iD v3)] [] rfl rfl) (AA ?_)
  exact ⟨⟨[_], ⟨.tmp _ _ rfl, tv⟩, rfl⟩, tv⟩
theorem GV (N : Nat) (p0 : List Af) (p1 : Int) (p2 : Int) (p3 : (Af × Af) → Option Int) (r : (List Af)) (h : Gs.insertionSort N p0 p1 p2 p3 = some r) : Bj Tryz.prog 145 [oD (.own 90000), iD p1, iD p2, oD (.clo (Bb (Co true Ai true Ai) Bi p3))] [(.vec 3 (p0.map Ai), .vec 3 (r.map Ai))] [] (.tup []) := by
 unfold Gs.insertionSort at h
 refine A9 (n := 53) (rs := []) Tryz.func145 rfl rfl rfl (A6 rfl) (A6 rfl) rfl rfl (A6 rfl) rfl (A6 rfl) fun w0 S0 GL => JI ?_
 refine Am (sm [] [(0, oD (.own 90000)), (1, iD p1), (2, iD p2), (3, oD (.clo (Bb (Co true Ai true Ai) Bi p3)))] [(90000, .vec 3 (p0.map Ai))] rfl rfl) (Ab (Aa Ac rfl (qm rfl (AR rfl (qa rfl (Ae ?_))))))
 refine AE (L := Gs.insertionSort_L1 N p1 p2 p3) h (fun v1 => mk [(0, oD (.own 90000)), (1, iD p1), (2, iD p2), (3, oD (.clo (Bb (Co true Ai true Ai) Bi p3))), (8, iD v1.2)] [(90000, .vec 3 (v1.1.map Ai))]) (fun v2 => mk [] [(90000, .vec 3 (v2.map Ai))]) (fun _ _ => rfl) (sm [] _ _ rfl rfl) (fun j1 n1 v1 h => ?_) (fun v2 s h hs => ?_)
 ·unfold Gs.insertionSort_L1 at h
  refine Ab (Ab (Aa Ac rfl (qm rfl (qm rfl (AX rfl (Ae ?_))))))
  refine Ap rfl (fun c3 => ?_) (fun c3 => ?_)
  ·have h := Ao c3 h
   refine Aq (Ab (AK (Ab (Aa Ac rfl (qm rfl (qa rfl (Ae ?_)))))))
   refine AE (L := Gs.insertionSort_L4 N p1 p3) h (fun v4 => mk [(0, oD (.own 90000)), (1, iD p1), (2, iD p2), (3, oD (.clo (Bb (Co true Ai true Ai) Bi p3))), (8, iD v1.2), (9, iD v4.2)] [(90000, .vec 3 (v4.1.map Ai))]) (fun v5 => mk [(0, oD (.own 90000)), (1, iD p1), (2, iD p2), (3, oD (.clo (Bb (Co true Ai true Ai) Bi p3))), (8, iD v1.2)] [(90000, .vec 3 (v5.map Ai))]) (fun _ _ => rfl) (sm [] _ _ rfl rfl) (fun j4 n4 v4 h => ?_) (fun v5 s h hs => ?_)
   ·unfold Gs.insertionSort_L4 at h
    refine Ab ?_
    refine AO h (fun v6 => mk [(0, oD (.own 90000)), (1, iD p1), (2, iD p2), (3, oD (.clo (Bb (Co true Ai true Ai) Bi p3))), (8, iD v1.2), (9, iD v4.2), (34, bD v6)] [(90000, .vec 3 (v4.1.map Ai))]) (fun j6 h => ?_) (fun v6 h => ?_)
    ·refine Aa Ac rfl (qm rfl (qm rfl (E2 rfl (qm rfl ?_))))
     refine AF (t := 21) rfl (fun c7 => ?_) (fun c7 => ?_)
     ·have h := Ao c7 h
      refine qm rfl (qm rfl (qm rfl ?_))
      obtain ⟨v8, a8, b8, h⟩ := Aj h
      refine qI AV Az a8 (Ag b8) rfl (qJ A7 Az (Ag b8) rfl (qm rfl (qm rfl (Bm rfl ?_))))
      obtain ⟨v9, a9, b9, h⟩ := Aj h
      refine qI AV Az a9 (Ag b9) rfl (qJ A7 Az (Ag b9) rfl ?_)
      obtain ⟨v10, a10, h⟩ := bind_some h
      refine CF (ds0 := [_, _]) (ar := (Co true Ai true Ai) ((v8, v9))) (.g rfl rfl) rfl rfl ⟨rfl, rfl, tv⟩ rfl rfl rfl (CH (Dd _ _ _ _ BI BI) a10) ?_
      refine AX rfl (qp rfl (AB (by kernel_rfl) ?_))
      exact Au _ h (sm [] _ _ rfl rfl)
     ·have h := An c7 h
      refine qn rfl (qn rfl (qn rfl (qn rfl (qn rfl (qn rfl (qn rfl (qn rfl (qn rfl (qn rfl (qn rfl (qn rfl (qp rfl (AB (by kernel_rfl) ?_)))))))))))))
      exact Au _ h (sm [] _ _ rfl rfl)
    ·refine Ap rfl (fun c11 => ?_) (fun c11 => ?_)
     ·have h := Ao c11 h
      refine Aq (Ab (AK (Aa Ac rfl (qm rfl (qm rfl (qm rfl (qm rfl (Bm rfl (qm rfl (qm rfl (Bm rfl ?_)))))))))))
      obtain ⟨v12, a12, b12, h⟩ := Aj h
      refine qI AV Az a12 (Ag b12) rfl (qJ A7 Az (Ag b12) rfl (qm rfl (qm rfl ?_)))
      obtain ⟨v13, a13, b13, h⟩ := Aj h
      refine qI AV Az a13 (Ag b13) rfl (qJ A7 Az (Ag b13) rfl ?_)
      obtain ⟨v14, a14, b14, h⟩ := Aj h
      refine qI AV Az a14 (Ag b14) rfl ?_
      refine AY rfl rfl rfl rfl (Ag b14) rfl Az rfl (A6 rfl) (AZ Ai v4.1 _ v12) ?_
      obtain ⟨v15, a15, b15, h⟩ := Aj h
      refine qI AV Az a15 (Ag b15) rfl ?_
      refine AY rfl rfl rfl rfl (Ag b15) rfl Az rfl (A6 rfl) (AZ Ai (v4.1.set ((v4.2).toNat) v12) _ v13) ?_
      refine AB (by kernel_rfl) (Aa Ac rfl (qm rfl (Bm rfl (qa rfl (Ae ?_)))))
      exact Au _ h (sm [] _ _ rfl rfl)
     ·have h := An c11 h
      refine AS ?_
      exact Au _ h (sm [] _ _ rfl rfl)
   ·refine Am hs (Aa Ac rfl (qm rfl (AR rfl (qa rfl (Ae ?_)))))
    exact Au _ h (sm [] _ _ rfl rfl)
  ·have h := An c3 h
   refine AS ?_
   exact Au _ h (sm [] _ _ rfl rfl)
 ·obtain rfl := sj h
  refine ⟨_, hs.trans (sm [] [] [(90000, .vec 3 (v2.map Ai))] rfl rfl), ?_⟩
  exact ⟨⟨[], tv, rfl⟩, ⟨rfl, tv⟩, tv⟩
end Go.Lift
