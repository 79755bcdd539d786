/- Lemmas for UnblockMoreSaid, which YtjpgllmfenogoaaGreatFinU5 proves. -/
import Derived.Test.YtjpgllmfenogoaaGreatCode1
namespace Go.Lift
set_option maxRecDepth 10000
open Go.RowKit
open Go.Proofs
theorem MY (N : Nat) (p0 : Ad) (p1 : Ag) (r : Int) (h : FK N p0 p1 = some r) : Ax Tryz.prog 112 [.e (.agg (Ak p0)), .e (.agg (AQ p1))] [] (iD r) := by
 unfold FK at h
 refine Am (n := 154) (rs := [.tmp 4]) Tryz.func112 rfl rfl rfl (A0 rfl) (A0 rfl) rfl fun w0 S0 => ?_
 refine Ar Ac rfl (qb rfl (qb rfl (qa rfl (Ae (Ao (Ar Ac rfl (qL Dv Ci rfl ?_)))))))
 refine BR h fun v1 a1 h => AC [] (E8 N p0 v1 a1) ZQ rfl (qa rfl (Ae (Ar Ac rfl (qm rfl (CF rfl (Ae ?_))))))
 refine Ba h rfl (fun h => ?_) fun h => ?_
 ·refine Ar Ac rfl (qm rfl (qe rfl ?_))
  obtain rfl := sj h
  refine Aj (sm [] [(4, iD v1)] [] rfl rfl) (Aw ?_)
  exact ⟨⟨[_], ⟨.tmp _ _ rfl, tv⟩, rfl⟩, tv⟩
 ·refine An (Ar Ac rfl (qf BF rfl (ql Bi rfl (AX AE rfl (qa rfl (Ae (Ao ?_)))))))
  refine AR h (fun v3 => mk [(2, oD (.ptr 2 0)), (3, oD (.ptr 3 0)), (6, iD ((p0.fc.length : Int))), (39, bD v3)] [(2, .box (Ak p0)), (3, .box (AQ p1))]) (fun j3 h => ?_) (fun v3 h => ?_)
  ·refine Ai Ac rfl (qf D0 rfl (ql Bi rfl (AX AE rfl (qm rfl (CF rfl (qm rfl ?_))))))
   refine E7 24 h rfl (fun h => ?_) fun h => ?_
   ·refine qn rfl (qn rfl (qn rfl (qn rfl (qn rfl (qp rfl (qm rfl (qn rfl (qn rfl (qn rfl (qn rfl (qn rfl (qn rfl (qn rfl (qp rfl (Ae ?_)))))))))))))))
    exact sn [] h
   ·refine qf Ca rfl (ql Bi rfl (AX AE rfl (qm rfl (CF rfl (qp rfl (qm rfl ?_))))))
    refine E7 31 h rfl (fun h => ?_) fun h => ?_
    ·refine qn rfl (qn rfl (qn rfl (qn rfl (qn rfl (qn rfl (qn rfl (qp rfl (Ae ?_))))))))
     exact sn [] h
    ·refine qf DO rfl (ql IT rfl (AX E0 rfl (qf BJ rfl (ql GN rfl (AX C9 rfl (CF rfl (qp rfl (Ae ?_))))))))
     exact sn [] h
  ·refine Ba h rfl (fun h => ?_) fun h => ?_
   ·refine Ar Ac rfl (qe rfl ?_)
    obtain rfl := sj h
    refine Aj (sm [] [(4, iD 6)] [] rfl rfl) (Aw ?_)
    exact ⟨⟨[_], ⟨.tmp _ _ rfl, tv⟩, rfl⟩, tv⟩
   ·refine An (Ao (Ar Ac rfl (qe rfl ?_)))
    refine AA (L := CP N p0 p1) h (fun v7 => mk [(2, oD (.ptr 2 0)), (3, oD (.ptr 3 0)), (6, iD ((p0.fc.length : Int))), (7, iD v7)] [(2, .box (Ak p0)), (3, .box (AQ p1))]) (fun v8 => mk [(2, oD (.ptr 2 0)), (3, oD (.ptr 3 0))] [(2, .box (Ak p0)), (3, .box (AQ p1))]) (fun _ _ => rfl) (sm [] _ _ rfl rfl) (fun j7 n7 v7 h => ?_) (fun v8 s h hs => ?_)
    ·unfold CP at h
     refine Ao (Ar Ac rfl (qm rfl (qm rfl (AY rfl (Ae ?_)))))
     refine Ba h rfl (fun h => ?_) fun h => ?_
     ·refine An (Ao (AJ (Ao ?_)))
      refine AR h (fun v10 => mk [(2, oD (.ptr 2 0)), (3, oD (.ptr 3 0)), (6, iD ((p0.fc.length : Int))), (7, iD v7), (84, bD v10)] [(2, .box (Ak p0)), (3, .box (AQ p1))]) (fun j10 h => ?_) (fun v10 h => ?_)
      ·refine Ai Ac rfl (qf D0 rfl (ql Bi rfl (qm rfl ?_)))
       refine Bb h fun v11 a11 b11 h => qi AE Et a11 (Af b11) rfl (qk CV rfl (AY rfl (qm rfl ?_)))
       refine E7 51 h rfl (fun h => ?_) fun h => ?_
       ·refine qn rfl (qn rfl (qn rfl (qn rfl (qn rfl (qn rfl (qn rfl (qn rfl (qn rfl (qn rfl (qn rfl (qp rfl (qm rfl (qn rfl (qn rfl (qn rfl (qn rfl (qn rfl (qn rfl (qp rfl (qm rfl (qn rfl (qn rfl (qn rfl (qn rfl (qn rfl (qn rfl (qn rfl (qn rfl (qn rfl (qn rfl (qn rfl (qp rfl (AI (by kernel_rfl) ?_)))))))))))))))))))))))))))))))))
        exact sn [] h
       ·refine qf D0 rfl (ql Bi rfl (qm rfl ?_))
        refine Bb h fun v13 a13 b13 h => qi AE Et a13 (Af b13) rfl (qk CV rfl (qf BF rfl (ql Bi rfl (qm rfl ?_))))
        refine Bb h fun v14 a14 b14 h => qi AE Et a14 (Af b14) rfl (qk CV rfl (Ej rfl (qp rfl (qm rfl ?_))))
        refine E7 64 h rfl (fun h => ?_) fun h => ?_
        ·refine qn rfl (qn rfl (qn rfl (qn rfl (qn rfl (qn rfl (qp rfl (qm rfl (qn rfl (qn rfl (qn rfl (qn rfl (qn rfl (qn rfl (qn rfl (qn rfl (qn rfl (qn rfl (qn rfl (qp rfl (AI (by kernel_rfl) ?_))))))))))))))))))))
         exact sn [] h
        ·refine qf Ca rfl (ql Bi rfl (qm rfl ?_))
         refine Bb h fun v16 a16 b16 h => qi AE Et a16 (Af b16) rfl (qk CV rfl (AY rfl (qp rfl (qm rfl ?_))))
         refine E7 72 h rfl (fun h => ?_) fun h => ?_
         ·refine qn rfl (qn rfl (qn rfl (qn rfl (qn rfl (qn rfl (qn rfl (qn rfl (qn rfl (qn rfl (qn rfl (qp rfl (AI (by kernel_rfl) ?_))))))))))))
          exact sn [] h
         ·refine qf Ca rfl (ql Bi rfl (qm rfl ?_))
          refine Bb h fun v18 a18 b18 h => qi AE Et a18 (Af b18) rfl (qk CV rfl (qf BF rfl (ql Bi rfl (qm rfl ?_))))
          refine Bb h fun v19 a19 b19 h => qi AE Et a19 (Af b19) rfl (qk CV rfl (Ej rfl (qp rfl (AI (by kernel_rfl) ?_))))
          exact sn [] h
      ·refine Ba h rfl (fun h => ?_) fun h => ?_
       ·refine Ar Ac rfl (qe rfl ?_)
        obtain rfl := sj h
        refine Aj (sm [] [(4, iD 7)] [] rfl rfl) (Aw ?_)
        exact ⟨⟨[_], ⟨.tmp _ _ rfl, tv⟩, rfl⟩, tv⟩
       ·refine An (Ar Ac rfl (qf D0 rfl (ql Bi rfl (qm rfl ?_))))
        refine Bb h fun v21 a21 b21 h => qi AE Et a21 (Af b21) rfl (qk CV rfl (qf Ca rfl (ql Bi rfl (qm rfl ?_))))
        refine Bb h fun v22 a22 b22 h => qi AE Et a22 (Af b22) rfl (qk CV rfl (B9 rfl (AI (by kernel_rfl) ?_)))
        refine Ba h rfl (fun h => ?_) fun h => ?_
        ·refine Ar Ac rfl (qe rfl ?_)
         obtain rfl := sj h
         refine Aj (sm [] [(4, iD 1)] [] rfl rfl) (Aw ?_)
         exact ⟨⟨[_], ⟨.tmp _ _ rfl, tv⟩, rfl⟩, tv⟩
        ·refine An (Ai Ac rfl (qm rfl (AV rfl (qe rfl ?_))))
         exact sn [] h
     ·refine AT ?_
      exact sn [] h
    ·refine Aj hs (Ao (Ar Ac rfl (qe rfl ?_)))
     refine AA (L := Cz N p0 p1) h (fun v24 => mk [(2, oD (.ptr 2 0)), (3, oD (.ptr 3 0)), (8, iD v24)] [(2, .box (Ak p0)), (3, .box (AQ p1))]) (fun v25 => mk [] []) (fun _ _ => rfl) (sm [] _ _ rfl rfl) (fun j24 n24 v24 h => ?_) (fun v25 s h hs => ?_)
     ·unfold Cz at h
      refine Ao (Ar Ac rfl (qm rfl (qf BJ rfl (ql GN rfl (AX C9 rfl (AY rfl (Ae ?_)))))))
      refine Ba h rfl (fun h => ?_) fun h => ?_
      ·refine An (Ao (AJ (Ar Ac rfl (qf BJ rfl (ql GN rfl (qm rfl ?_))))))
       refine Bb h fun v27 a27 b27 h => qi C9 Dx a27 (Af b27) rfl (qK HQ Dx rfl (qz JX rfl (qs Dx rfl (Ae (Ar Ac rfl (qf BF rfl (ql Bi rfl (qf En rfl (ql CV rfl ?_)))))))))
       refine Bb h fun v28 a28 b28 h => qi AE Et a28 (Af b28) rfl (qk CV rfl ?_)
       refine GA h fun c29 h => Jy rfl c29 (Dp rfl (qe rfl ?_))
       refine AR h (fun v30 => mk [(2, oD (.ptr 2 0)), (3, oD (.ptr 3 0)), (8, iD v24), (153, bD v30)] [(2, .box (Ak p0)), (3, .box (AQ p1))]) (fun j30 h => ?_) (fun v30 h => ?_)
       ·refine Ai Ac rfl (qL HQ Dx rfl ?_)
        refine BR h fun v31 a31 h => AC [] (C1 N v27 v31 a31) Tg rfl (CO rfl (qm rfl ?_))
        refine E7 119 h rfl (fun h => ?_) fun h => ?_
        ·refine qf DO rfl (ql IT rfl (qm rfl ?_))
         refine Bb h fun v33 a33 b33 h => qi E0 HK a33 (Af b33) rfl (qk Mj rfl (CF rfl (qp rfl (qm rfl ?_))))
         refine E7 127 h rfl (fun h => ?_) fun h => ?_
         ·refine qn rfl (qn rfl (qn rfl (qu rfl (qu rfl (qu rfl (qu rfl (qu rfl (qu rfl (qu rfl (qu rfl (qu rfl (qu rfl (qu rfl (qu rfl (qu rfl (qu rfl (qu rfl (qu rfl (qu rfl (qu rfl (qu rfl (qu rfl (qu rfl (qn rfl (qp rfl (AI (by kernel_rfl) ?_))))))))))))))))))))))))))
          exact sn [] h
         ·refine qL HQ Dx rfl ?_
          refine BR h fun v35 a35 h => AC [] (C1 N v27 v35 a35) Tg rfl (qm rfl ?_)
          refine E7 130 h rfl (fun h => ?_) fun h => ?_
          ·refine qf DO rfl (ql IT rfl (qm rfl ?_))
           refine Bb h fun v37 a37 b37 h => qi E0 HK a37 (Af b37) rfl (qk Mj rfl (qm rfl (Kt rfl (CF rfl (qm rfl ?_)))))
           refine E7 139 h rfl (fun h => ?_) fun h => ?_
           ·refine qn rfl (qn rfl (qn rfl (qn rfl (qn rfl (qn rfl (qn rfl (qn rfl (qn rfl (qn rfl (qn rfl (qp rfl (qp rfl (qp rfl (AI (by kernel_rfl) ?_))))))))))))))
            exact sn [] h
           ·refine qL CM Bc rfl (qf En rfl (ql CV rfl ?_))
            refine BR h fun v39 a39 h => AC [] (Fv N p1 v27.fg v39 a39) Ul rfl (qf DO rfl (ql IT rfl (qm rfl ?_)))
            refine Bb h fun v40 a40 b40 h => qi E0 HK a40 (Af b40) rfl (qk Mj rfl (Kt rfl (CF rfl (qp rfl (qp rfl (qp rfl (AI (by kernel_rfl) ?_)))))))
            exact sn [] h
          ·refine qn rfl (qn rfl (qn rfl (qn rfl (qn rfl (qn rfl (qn rfl (qn rfl (qn rfl (qu rfl (qu rfl (qu rfl (qu rfl (qu rfl (qu rfl (qu rfl (qu rfl (qu rfl (qu rfl (qu rfl (qn rfl (qp rfl (qp rfl (AI (by kernel_rfl) ?_)))))))))))))))))))))))
           exact sn [] h
        ·refine qn rfl (qn rfl (qn rfl (qn rfl (qn rfl (qn rfl (qp rfl (qm rfl (qL HQ Dx rfl ?_))))))))
         refine BR h fun v41 a41 h => AC [] (C1 N v27 v41 a41) Tg rfl (qm rfl ?_)
         refine E7 130 h rfl (fun h => ?_) fun h => ?_
         ·refine qf DO rfl (ql IT rfl (qm rfl ?_))
          refine Bb h fun v43 a43 b43 h => qi E0 HK a43 (Af b43) rfl (qk Mj rfl (qm rfl (Kt rfl (CF rfl (qm rfl ?_)))))
          refine E7 139 h rfl (fun h => ?_) fun h => ?_
          ·refine qn rfl (qn rfl (qn rfl (qn rfl (qn rfl (qn rfl (qn rfl (qn rfl (qn rfl (qn rfl (qn rfl (qp rfl (qp rfl (qp rfl (AI (by kernel_rfl) ?_))))))))))))))
           exact sn [] h
          ·refine qL CM Bc rfl (qf En rfl (ql CV rfl ?_))
           refine BR h fun v45 a45 h => AC [] (Fv N p1 v27.fg v45 a45) Ul rfl (qf DO rfl (ql IT rfl (qm rfl ?_)))
           refine Bb h fun v46 a46 b46 h => qi E0 HK a46 (Af b46) rfl (qk Mj rfl (Kt rfl (CF rfl (qp rfl (qp rfl (qp rfl (AI (by kernel_rfl) ?_)))))))
           exact sn [] h
         ·refine qn rfl (qn rfl (qn rfl (qn rfl (qn rfl (qn rfl (qn rfl (qn rfl (qn rfl (qu rfl (qu rfl (qu rfl (qu rfl (qu rfl (qu rfl (qu rfl (qu rfl (qu rfl (qu rfl (qu rfl (qn rfl (qp rfl (qp rfl (AI (by kernel_rfl) ?_)))))))))))))))))))))))
          exact sn [] h
       ·refine Ba h rfl (fun h => ?_) fun h => ?_
        ·refine Ar Ac rfl (qe rfl ?_)
         obtain rfl := sj h
         refine Aj (sm [] [(4, iD 1)] [] rfl rfl) (Aw ?_)
         exact ⟨⟨[_], ⟨.tmp _ _ rfl, tv⟩, rfl⟩, tv⟩
        ·refine An (Ai Ac rfl (qm rfl (AV rfl (qe rfl ?_))))
         exact sn [] h
      ·refine AT ?_
       exact sn [] h
     ·refine Aj hs (Ar Ac rfl (qe rfl ?_))
      obtain rfl := sj h
      refine Aj (sm [] [(4, iD 0)] [] rfl rfl) (Aw ?_)
      exact ⟨⟨[_], ⟨.tmp _ _ rfl, tv⟩, rfl⟩, tv⟩
theorem M1 (N : Nat) (p0 : Ah) (r : Bool) (h : FU N p0 = some r) : Ax Tryz.prog 113 [.e (.agg (Ed p0))] [] (bD r) := by
 unfold FU at h
 refine Am (n := 31) (rs := [.tmp 2]) Tryz.func113 rfl rfl rfl (A0 rfl) (A0 rfl) rfl fun w0 S0 => ?_
 refine Ar Ac rfl (qb rfl (qe rfl ?_))
 refine AR h (fun v1 => mk [(2, bD v1)] []) (fun j1 h => ?_) (fun v1 h => ?_)
 ·refine Ai Ac rfl (qf Gs rfl (ql CV rfl (Ej rfl (qm rfl ?_))))
  refine E7 6 h rfl (fun h => ?_) fun h => ?_
  ·refine qf Gs rfl (ql CV rfl (KT rfl (qp rfl (qm rfl ?_))))
   refine E7 11 h rfl (fun h => ?_) fun h => ?_
   ·refine qf Fz rfl (ql CV rfl (Ej rfl (qp rfl (qm rfl ?_))))
    refine E7 16 h rfl (fun h => ?_) fun h => ?_
    ·refine qf Hr rfl (ql CV rfl (Ej rfl (qp rfl (qm rfl ?_))))
     refine E7 21 h rfl (fun h => ?_) fun h => ?_
     ·refine qf Gs rfl (ql CV rfl (B9 rfl (qm rfl ?_)))
      refine E7 25 h rfl (fun h => ?_) fun h => ?_
      ·refine qn rfl (qn rfl (qn rfl (qp rfl (qp rfl (qe rfl ?_)))))
       exact sn [] h
      ·refine qf Hr rfl (ql CV rfl (B9 rfl (qp rfl (qp rfl (qe rfl ?_)))))
       exact sn [] h
     ·refine qn rfl (qn rfl (qn rfl (qn rfl (qu rfl (qu rfl (qu rfl (qn rfl (qp rfl (qe rfl ?_)))))))))
      exact sn [] h
    ·refine qn rfl (qn rfl (qn rfl (qp rfl (qm rfl (qn rfl (qn rfl (qn rfl (qn rfl (qu rfl (qu rfl (qu rfl (qn rfl (qp rfl (qe rfl ?_))))))))))))))
     exact sn [] h
   ·refine qn rfl (qn rfl (qn rfl (qp rfl (qm rfl (qn rfl (qn rfl (qn rfl (qp rfl (qm rfl (qn rfl (qn rfl (qn rfl (qn rfl (qu rfl (qu rfl (qu rfl (qn rfl (qp rfl (qe rfl ?_)))))))))))))))))))
    exact sn [] h
  ·refine qn rfl (qn rfl (qn rfl (qp rfl (qm rfl (qn rfl (qn rfl (qn rfl (qp rfl (qm rfl (qn rfl (qn rfl (qn rfl (qp rfl (qm rfl (qn rfl (qn rfl (qn rfl (qn rfl (qu rfl (qu rfl (qu rfl (qn rfl (qp rfl (qe rfl ?_))))))))))))))))))))))))
   exact sn [] h
 ·obtain rfl := sj h
  refine Aj (sm [] [(2, bD v1)] [] rfl rfl) (Aw ?_)
  exact ⟨⟨[_], ⟨.tmp _ _ rfl, tv⟩, rfl⟩, tv⟩
theorem JQ (N : Nat) (p0 : Ad) (p1 : Ag) (p2 : Ah) (r : Ag × Bool) (h : DF N p0 p1 p2 = some r) : Ax Tryz.prog 114 [.e (.agg (Ak p0)), .e (.agg (AQ p1)), .e (.agg (Ed p2))] [(1, r.1.fd.map Av), (1, r.1.fa.map Av), (1, r.1.fe.map ER)] (.tup [.agg [.own 0, .own 1, .own 2], .one (.pure (.val (.bool r.2)))]) := by
 unfold DF at h
 refine Am (n := 201) (rs := [.cell 6 64, .tmp 7]) Tryz.func114 rfl rfl rfl (A0 rfl) (A0 rfl) rfl fun w0 S0 => ?_
 refine Ar Ac rfl (qb rfl (qb rfl (qb rfl (qz FI rfl (qa rfl (Ae (Ar Ac rfl (E5 AE Et Lt rfl (qf D0 rfl (ql Bi rfl ?_))))))))))
 refine GA h fun c1 h => HT (f := Av) AE AE Et Ms Lt (fun _ => rfl) c1 rfl (E5 AE Et Lt rfl (qf Ca rfl (ql Bi rfl ?_)))
 refine GA h fun c2 h => HT (f := Av) AE AE Et Ms Lt (fun _ => rfl) c2 rfl (E5 E0 HK Sk rfl (qf DO rfl (ql IT rfl ?_)))
 refine GA h fun c3 h => HT (f := ER) E0 E0 HK TV Sk (fun _ => rfl) c3 rfl (Bo FI J4 rfl (qz FI rfl (qs Bc rfl (AI (by kernel_rfl) (Ar Ac rfl (qf Fz rfl (ql CV rfl (qe rfl ?_))))))))
 refine AR h (fun v4 => mk [(6, oD (.ptr 6 0)), (8, oD (.ptr 8 0))] [(6, .box [.pure (.nil0), .pure (.nil0), .pure (.nil0)]), (8, .box [.own 2001, .own 2002, .own 2003]), (2001, .vec 1 (v4.1.map Av)), (2002, .vec 1 (v4.2.1.map Av)), (2003, .vec 1 (v4.2.2.map ER))]) (fun j4 h => ?_) (fun v4 h => ?_)
 ·refine Ar Ac rfl (qf Gs rfl (ql CV rfl (Ae (AJ (Ar Ac rfl (B9 rfl (qe rfl ?_)))))))
  refine Ba h rfl (fun h => ?_) fun h => ?_
  ·refine Ao ?_
   refine AR h (fun v6 => mk [(3, oD (.ptr 3 0)), (5, oD (.ptr 5 0)), (6, oD (.ptr 6 0)), (8, oD (.ptr 8 0)), (9, iD p2.fj), (60, bD v6)] [(3, .box (Ak p0)), (5, .box (Ed p2)), (6, .box [.pure (.nil0), .pure (.nil0), .pure (.nil0)]), (8, .box [.own 2004, .own 2005, .own 2006]), (2004, .vec 1 (((([] : List Int)) ++ p1.fd).map Av)), (2005, .vec 1 (((([] : List Int)) ++ p1.fa).map Av)), (2006, .vec 1 (((([] : List Int)) ++ p1.fe).map ER))]) (fun j6 h => ?_) (fun v6 h => ?_)
   ·refine Ai Ac rfl (qf Ca rfl (ql Bi rfl (qm rfl ?_)))
    refine Bb h fun v7 a7 b7 h => qi AE Et a7 (Af b7) rfl (qk CV rfl (Ej rfl (qm rfl ?_)))
    refine E7 51 h rfl (fun h => ?_) fun h => ?_
    ·refine qn rfl (qn rfl (qn rfl (qn rfl (qn rfl (qn rfl (qn rfl (qn rfl (qp rfl (AI (by kernel_rfl) ?_)))))))))
     exact sn [(2004, 18), (2005, 22), (2006, 26)] h
    ·refine qf Hr rfl (ql CV rfl (qf D0 rfl (ql Bi rfl (qm rfl ?_))))
     refine Bb h fun v9 a9 b9 h => qi AE Et a9 (Af b9) rfl (qk CV rfl (B9 rfl (qp rfl (AI (by kernel_rfl) ?_))))
     exact sn [(2004, 18), (2005, 22), (2006, 26)] h
   ·refine Ba h rfl (fun h => ?_) fun h => ?_
    ·refine Ar Ac rfl (Bo FI J4 rfl (qs Bc rfl (qe rfl ?_)))
     obtain rfl := sj h
     refine Aj ((Ay 6 0 2007 1 _ rfl rfl rfl rfl).trans ((Ay 6 1 2008 1 _ rfl rfl rfl rfl).trans ((Ay 6 2 2009 1 _ rfl rfl rfl rfl).trans (sm [(1000, 2007), (1001, 2008), (1002, 2009)] [(6, oD (.ptr 6 0)), (7, bD false)] [(6, .box [.own 1000, .own 1001, .own 1002]), (1000, .vec 1 ((([] : List Int)).map Av)), (1001, .vec 1 ((([] : List Int)).map Av)), (1002, .vec 1 ((([] : List Int)).map ER))] rfl rfl)))) (Aw ?_)
     exact ⟨⟨[_, _], ⟨.cellN _ _ _ _ _ _ _ rfl rfl CM Bc rfl rfl (J8 rfl), ⟨.tmp _ _ rfl, tv⟩⟩, rfl⟩, ⟨rfl, rfl, rfl, tv⟩⟩
    ·refine An (Ar Ac rfl (qf Ca rfl (ql Bi rfl (qm rfl (qf Hr rfl (ql CV rfl ?_))))))
     refine Bb h fun v11 a11 b11 h => qI AE Et a11 (Af b11) rfl ?_
     refine A7 rfl rfl rfl rfl (Af b11) rfl Et rfl (A0 rfl) (A4 Av ((([] : List Int)) ++ p1.fa) _ p2.fr) ?_
     refine Ae (Ar Ac rfl (qe rfl ?_))
     refine AA (L := CB N p0 p2) h (fun v12 => mk [(3, oD (.ptr 3 0)), (5, oD (.ptr 5 0)), (6, oD (.ptr 6 0)), (8, oD (.ptr 8 0)), (9, iD p2.fj), (10, iD v12.2)] [(3, .box (Ak p0)), (5, .box (Ed p2)), (6, .box [.pure (.nil0), .pure (.nil0), .pure (.nil0)]), (8, .box [.own 2010, .own 2011, .own 2012]), (2010, .vec 1 (((([] : List Int)) ++ p1.fd).map Av)), (2011, .vec 1 ((((([] : List Int)) ++ p1.fa).set ((p2.fj).toNat) p2.fr).map Av)), (2012, .vec 1 (v12.1.map ER))]) (fun v13 => mk [(6, oD (.ptr 6 0)), (8, oD (.ptr 8 0))] [(6, .box [.pure (.nil0), .pure (.nil0), .pure (.nil0)]), (8, .box [.own 2013, .own 2014, .own 2015]), (2013, .vec 1 (((([] : List Int)) ++ p1.fd).map Av)), (2014, .vec 1 ((((([] : List Int)) ++ p1.fa).set ((p2.fj).toNat) p2.fr).map Av)), (2015, .vec 1 (v13.map ER))]) (fun _ _ => rfl) (sm [(2010, 2004), (2011, 2005), (2012, 2006)] _ _ rfl rfl) (fun j12 n12 v12 h => ?_) (fun v13 s h hs => ?_)
     ·unfold CB at h
      refine Ao (Ar Ac rfl (qm rfl (qf BJ rfl (ql GN rfl (AX C9 rfl (AY rfl (Ae ?_)))))))
      refine Ba h rfl (fun h => ?_) fun h => ?_
      ·refine An ?_
       refine AR h (fun v15 => mk [(3, oD (.ptr 3 0)), (5, oD (.ptr 5 0)), (6, oD (.ptr 6 0)), (8, oD (.ptr 8 0)), (9, iD p2.fj), (10, iD v12.2)] [(3, .box (Ak p0)), (5, .box (Ed p2)), (6, .box [.pure (.nil0), .pure (.nil0), .pure (.nil0)]), (8, .box [.own 2016, .own 2017, .own 2018]), (2016, .vec 1 (((([] : List Int)) ++ p1.fd).map Av)), (2017, .vec 1 ((((([] : List Int)) ++ p1.fa).set ((p2.fj).toNat) p2.fr).map Av)), (2018, .vec 1 (v15.map ER))]) (fun j15 h => ?_) (fun v15 h => ?_)
       ·refine AJ ?_
        refine AR h (fun v16 => mk [(3, oD (.ptr 3 0)), (5, oD (.ptr 5 0)), (6, oD (.ptr 6 0)), (8, oD (.ptr 8 0)), (9, iD p2.fj), (10, iD v12.2), (90, bD v16)] [(3, .box (Ak p0)), (5, .box (Ed p2)), (6, .box [.pure (.nil0), .pure (.nil0), .pure (.nil0)]), (8, .box [.own 2019, .own 2020, .own 2021]), (2019, .vec 1 (((([] : List Int)) ++ p1.fd).map Av)), (2020, .vec 1 ((((([] : List Int)) ++ p1.fa).set ((p2.fj).toNat) p2.fr).map Av)), (2021, .vec 1 (v12.1.map ER))]) (fun j16 h => ?_) (fun v16 h => ?_)
        ·refine Ai Ac rfl (qf BJ rfl (ql GN rfl (qm rfl ?_)))
         refine Bb h fun v17 a17 b17 h => qi C9 Dx a17 (Af b17) rfl (qg En rfl (qk CV rfl (qm rfl (B9 rfl (qm rfl ?_)))))
         refine E7 83 h rfl (fun h => ?_) fun h => ?_
         ·refine qf BJ rfl (ql GN rfl (qm rfl ?_))
          refine Bb h fun v19 a19 b19 h => qi C9 Dx a19 (Af b19) rfl (qK HQ Dx rfl ?_)
          refine BR h fun v20 a20 h => AC [] (C1 N v19 v20 a20) Tg rfl (qp rfl (Ae ?_))
          exact sn [(2019, 2010), (2020, 2011), (2021, 2012)] h
         ·refine qn rfl (qn rfl (qn rfl (qn rfl (qn rfl (qn rfl (qp rfl (Ae ?_)))))))
          exact sn [(2019, 2010), (2020, 2011), (2021, 2012)] h
        ·refine Ba h rfl (fun h => ?_) fun h => ?_
         ·refine Ai Ac rfl (qf DO rfl (ql IT rfl (qm rfl (qf DO rfl (ql IT rfl (qm rfl ?_))))))
          refine Bb h fun v22 a22 b22 h => qI E0 HK a22 (Af b22) rfl (qj Mj (Af b22) rfl (qf Hr rfl (ql CV rfl ?_)))
          refine GA h fun c23 h => Jy rfl c23 (XM rfl ?_)
          refine Bb h fun v24 a24 b24 h => qI E0 HK a24 (Af b24) rfl ?_
          refine A7 rfl rfl rfl rfl (Af b24) rfl HK rfl (A0 rfl) (A4 ER v12.1 _ ((Q3 .u8 v22 ((Dw .u8 1 p2.fr))))) ?_
          refine AI (by kernel_rfl) ?_
          exact sn [(2016, 2019), (2017, 2020), (2018, 2021)] h
         ·refine An ?_
          exact sn [(2016, 2019), (2017, 2020), (2018, 2021)] h
       ·refine Ai Ac rfl (qm rfl (AV rfl (qe rfl ?_)))
        exact sn [(2010, 2016), (2011, 2017), (2012, 2018)] h
      ·refine AT ?_
       exact sn [(2013, 2010), (2014, 2011), (2015, 2012)] h
     ·exact Uc _ h (hs.trans (sm [(2001, 2013), (2002, 2014), (2003, 2015)] _ _ rfl rfl))
  ·refine Ar Ac rfl (B9 rfl (qe rfl ?_))
   refine Ba h rfl (fun h => ?_) fun h => ?_
   ·refine Ao (Ar Ac rfl (qf Ca rfl (ql Bi rfl (qm rfl ?_))))
    refine Bb h fun v26 a26 b26 h => qi AE Et a26 (Af b26) rfl (qk CV rfl (AY rfl (Ae ?_)))
    refine Ba h rfl (fun h => ?_) fun h => ?_
    ·refine Ar Ac rfl (Bo FI J4 rfl (qs Bc rfl (qe rfl ?_)))
     obtain rfl := sj h
     refine Aj ((Ay 6 0 2022 1 _ rfl rfl rfl rfl).trans ((Ay 6 1 2023 1 _ rfl rfl rfl rfl).trans ((Ay 6 2 2024 1 _ rfl rfl rfl rfl).trans (sm [(1000, 2022), (1001, 2023), (1002, 2024)] [(6, oD (.ptr 6 0)), (7, bD false)] [(6, .box [.own 1000, .own 1001, .own 1002]), (1000, .vec 1 ((([] : List Int)).map Av)), (1001, .vec 1 ((([] : List Int)).map Av)), (1002, .vec 1 ((([] : List Int)).map ER))] rfl rfl)))) (Aw ?_)
     exact ⟨⟨[_, _], ⟨.cellN _ _ _ _ _ _ _ rfl rfl CM Bc rfl rfl (J8 rfl), ⟨.tmp _ _ rfl, tv⟩⟩, rfl⟩, ⟨rfl, rfl, rfl, tv⟩⟩
    ·refine An (Ai Ac rfl (qf D0 rfl (ql Bi rfl (qm rfl (qf Ca rfl (ql Bi rfl (qm rfl (qf Ca rfl (ql Bi rfl (qm rfl ?_))))))))))
     refine Bb h fun v28 a28 b28 h => qi AE Et a28 (Af b28) rfl (qk CV rfl ?_)
     refine Bb h fun v29 a29 b29 h => qI AE Et a29 (Af b29) rfl ?_
     refine A7 rfl rfl rfl rfl (Af b29) rfl Et rfl (A0 rfl) (A4 Av ((([] : List Int)) ++ p1.fd) _ v28) ?_
     refine Bb h fun v30 a30 b30 h => qI AE Et a30 (Af b30) rfl ?_
     refine A7 rfl rfl rfl rfl (Af b30) rfl Et rfl (A0 rfl) (A4 Av ((([] : List Int)) ++ p1.fa) _ ((-1))) ?_
     refine AI (by kernel_rfl) ?_
     exact sn [(2001, 18), (2002, 22), (2003, 26)] h
   ·refine Ar Ac rfl (B9 rfl (qe rfl ?_))
    refine Ba h rfl (fun h => ?_) fun h => ?_
    ·refine Ar Ac rfl (qf BJ rfl (ql GN rfl (qm rfl ?_)))
     refine Bb h fun v32 a32 b32 h => qi C9 Dx a32 (Af b32) rfl (qK HQ Dx rfl (qz JX rfl (qs Dx rfl (Ae (Ao (Ar Ac rfl (qL HQ Dx rfl ?_)))))))
     refine BR h fun v33 a33 h => AC [] (C1 N v32 v33 a33) Tg rfl (CO rfl (Ae ?_))
     refine Ba h rfl (fun h => ?_) fun h => ?_
     ·refine Ar Ac rfl (Bo FI J4 rfl (qs Bc rfl (qe rfl ?_)))
      obtain rfl := sj h
      refine Aj ((Ay 6 0 2025 1 _ rfl rfl rfl rfl).trans ((Ay 6 1 2026 1 _ rfl rfl rfl rfl).trans ((Ay 6 2 2027 1 _ rfl rfl rfl rfl).trans (sm [(1000, 2025), (1001, 2026), (1002, 2027)] [(6, oD (.ptr 6 0)), (7, bD false)] [(6, .box [.own 1000, .own 1001, .own 1002]), (1000, .vec 1 ((([] : List Int)).map Av)), (1001, .vec 1 ((([] : List Int)).map Av)), (1002, .vec 1 ((([] : List Int)).map ER))] rfl rfl)))) (Aw ?_)
      exact ⟨⟨[_, _], ⟨.cellN _ _ _ _ _ _ _ rfl rfl CM Bc rfl rfl (J8 rfl), ⟨.tmp _ _ rfl, tv⟩⟩, rfl⟩, ⟨rfl, rfl, rfl, tv⟩⟩
     ·refine An (Ar Ac rfl (qL CM Bc rfl (qf En rfl (ql CV rfl ?_))))
      refine BR h fun v35 a35 h => AC [] (Fv N p1 v32.fg v35 a35) Ul rfl (qa rfl (Ae (Ao (Ar Ac rfl (qf DO rfl (ql IT rfl (qm rfl ?_)))))))
      refine Bb h fun v36 a36 b36 h => qi E0 HK a36 (Af b36) rfl (qk Mj rfl (qm rfl (B9 rfl (Ae ?_))))
      refine Ba h rfl (fun h => ?_) fun h => ?_
      ·refine Ar Ac rfl (Bo FI J4 rfl (qs Bc rfl (qe rfl ?_)))
       obtain rfl := sj h
       refine Aj ((Ay 6 0 2028 1 _ rfl rfl rfl rfl).trans ((Ay 6 1 2029 1 _ rfl rfl rfl rfl).trans ((Ay 6 2 2030 1 _ rfl rfl rfl rfl).trans (sm [(1000, 2028), (1001, 2029), (1002, 2030)] [(6, oD (.ptr 6 0)), (7, bD false)] [(6, .box [.own 1000, .own 1001, .own 1002]), (1000, .vec 1 ((([] : List Int)).map Av)), (1001, .vec 1 ((([] : List Int)).map Av)), (1002, .vec 1 ((([] : List Int)).map ER))] rfl rfl)))) (Aw ?_)
       exact ⟨⟨[_, _], ⟨.cellN _ _ _ _ _ _ _ rfl rfl CM Bc rfl rfl (J8 rfl), ⟨.tmp _ _ rfl, tv⟩⟩, rfl⟩, ⟨rfl, rfl, rfl, tv⟩⟩
      ·refine An (Ao (Ar Ac rfl (qe rfl ?_)))
       refine AA (L := B2 N p0 p1 p2 v32 v35) h (fun v38 => mk [(3, oD (.ptr 3 0)), (4, oD (.ptr 4 0)), (6, oD (.ptr 6 0)), (8, oD (.ptr 8 0)), (9, iD p2.fj), (11, oD (.ptr 11 0)), (12, pD (.val (.int .u8 v35))), (13, iD v38)] [(3, .box (Ak p0)), (4, .box (AQ p1)), (6, .box [.pure (.nil0), .pure (.nil0), .pure (.nil0)]), (8, .box [.own 2031, .own 2032, .own 2033]), (11, .box (Bt v32)), (2031, .vec 1 (((([] : List Int)) ++ p1.fd).map Av)), (2032, .vec 1 (((([] : List Int)) ++ p1.fa).map Av)), (2033, .vec 1 (((([] : List Int)) ++ p1.fe).map ER))]) (fun v39 => mk [(6, oD (.ptr 6 0)), (8, oD (.ptr 8 0)), (9, iD p2.fj), (12, pD (.val (.int .u8 v35)))] [(6, .box [.pure (.nil0), .pure (.nil0), .pure (.nil0)]), (8, .box [.own 2034, .own 2035, .own 2036]), (2034, .vec 1 (((([] : List Int)) ++ p1.fd).map Av)), (2035, .vec 1 (((([] : List Int)) ++ p1.fa).map Av)), (2036, .vec 1 (((([] : List Int)) ++ p1.fe).map ER))]) (fun _ _ => rfl) (sm [(2031, 18), (2032, 22), (2033, 26)] _ _ rfl rfl) (fun j38 n38 v38 h => ?_) (fun v39 s h hs => ?_)
       ·unfold B2 at h
        refine Ao (Ar Ac rfl (qm rfl (qf BF rfl (ql Bi rfl (qf En rfl (ql CV rfl ?_))))))
        refine Bb h fun v40 a40 b40 h => qi AE Et a40 (Af b40) rfl (qk CV rfl (AY rfl (Ae ?_)))
        refine Ba h rfl (fun h => ?_) fun h => ?_
        ·refine An (Ao (AJ ?_))
         refine AR h (fun v42 => mk [(3, oD (.ptr 3 0)), (4, oD (.ptr 4 0)), (6, oD (.ptr 6 0)), (8, oD (.ptr 8 0)), (9, iD p2.fj), (11, oD (.ptr 11 0)), (12, pD (.val (.int .u8 v35))), (13, iD v38), (14, bD v42)] [(3, .box (Ak p0)), (4, .box (AQ p1)), (6, .box [.pure (.nil0), .pure (.nil0), .pure (.nil0)]), (8, .box [.own 2037, .own 2038, .own 2039]), (11, .box (Bt v32)), (2037, .vec 1 (((([] : List Int)) ++ p1.fd).map Av)), (2038, .vec 1 (((([] : List Int)) ++ p1.fa).map Av)), (2039, .vec 1 (((([] : List Int)) ++ p1.fe).map ER))]) (fun j42 h => ?_) (fun v42 h => ?_)
         ·refine Ai Ac rfl (qf DO rfl (ql IT rfl (qm rfl ?_)))
          refine Bb h fun v43 a43 b43 h => qi E0 HK a43 (Af b43) rfl (qk Mj rfl (qm rfl ?_))
          refine BR h fun v44 a44 h => AC [] (HE N v43 v38 v44 a44) Wa rfl (qm rfl ?_)
          refine E7 166 h rfl (fun h => ?_) fun h => ?_
          ·refine qm rfl (qm rfl ?_)
           refine BR h fun v46 a46 h => AC [] (HE N v35 v38 v46 a46) Wa rfl (CO rfl (qp rfl (qe rfl ?_)))
           exact sn [(2037, 2031), (2038, 2032), (2039, 2033)] h
          ·refine qn rfl (qn rfl (qn rfl (qn rfl (qp rfl (qe rfl ?_)))))
           exact sn [(2037, 2031), (2038, 2032), (2039, 2033)] h
         ·refine AR h (fun v47 => mk [(3, oD (.ptr 3 0)), (4, oD (.ptr 4 0)), (6, oD (.ptr 6 0)), (8, oD (.ptr 8 0)), (9, iD p2.fj), (11, oD (.ptr 11 0)), (12, pD (.val (.int .u8 v35))), (13, iD v38), (193, bD v47)] [(3, .box (Ak p0)), (4, .box (AQ p1)), (6, .box [.pure (.nil0), .pure (.nil0), .pure (.nil0)]), (8, .box [.own 2040, .own 2041, .own 2042]), (11, .box (Bt v32)), (2040, .vec 1 (((([] : List Int)) ++ p1.fd).map Av)), (2041, .vec 1 (((([] : List Int)) ++ p1.fa).map Av)), (2042, .vec 1 (((([] : List Int)) ++ p1.fe).map ER))]) (fun j47 h => ?_) (fun v47 h => ?_)
          ·refine Ai Ac rfl (qm rfl (qm rfl ?_))
           refine E7 173 h rfl (fun h => ?_) fun h => ?_
           ·refine qf HJ rfl (ql CV rfl (B9 rfl (qp rfl (qm rfl ?_))))
            refine E7 178 h rfl (fun h => ?_) fun h => ?_
            ·refine qf Fo rfl (ql HL rfl (qm rfl ?_))
             refine Bb h fun v50 a50 b50 h => qi D7 IS a50 (Af b50) rfl (qk Me rfl (qf D0 rfl (ql Bi rfl (qf En rfl (ql CV rfl ?_)))))
             refine Bb h fun v51 a51 b51 h => qi AE Et a51 (Af b51) rfl (qk CV rfl ?_)
             refine Bb h fun v52 a52 b52 h => qi E6 Nh a52 (Af b52) rfl (qk TE rfl (CO rfl (qp rfl (AI (by kernel_rfl) ?_))))
             exact sn [(2040, 2037), (2041, 2038), (2042, 2039)] h
            ·refine qn rfl (qn rfl (qn rfl (qn rfl (qn rfl (qn rfl (qn rfl (qn rfl (qn rfl (qn rfl (qn rfl (qn rfl (qn rfl (qn rfl (qp rfl (AI (by kernel_rfl) ?_)))))))))))))))
             exact sn [(2040, 2037), (2041, 2038), (2042, 2039)] h
           ·refine qn rfl (qn rfl (qn rfl (qp rfl (qm rfl (qn rfl (qn rfl (qn rfl (qn rfl (qn rfl (qn rfl (qn rfl (qn rfl (qn rfl (qn rfl (qn rfl (qn rfl (qn rfl (qn rfl (qp rfl (AI (by kernel_rfl) ?_))))))))))))))))))))
            exact sn [(2040, 2037), (2041, 2038), (2042, 2039)] h
          ·refine Ba h rfl (fun h => ?_) fun h => ?_
           ·refine Ar Ac rfl (Bo FI J4 rfl (qs Bc rfl (qe rfl ?_)))
            obtain rfl := sj h
            refine Aj ((Ay 6 0 2043 1 _ rfl rfl rfl rfl).trans ((Ay 6 1 2044 1 _ rfl rfl rfl rfl).trans ((Ay 6 2 2045 1 _ rfl rfl rfl rfl).trans (sm [(1000, 2043), (1001, 2044), (1002, 2045)] [(6, oD (.ptr 6 0)), (7, bD false)] [(6, .box [.own 1000, .own 1001, .own 1002]), (1000, .vec 1 ((([] : List Int)).map Av)), (1001, .vec 1 ((([] : List Int)).map Av)), (1002, .vec 1 ((([] : List Int)).map ER))] rfl rfl)))) (Aw ?_)
            exact ⟨⟨[_, _], ⟨.cellN _ _ _ _ _ _ _ rfl rfl CM Bc rfl rfl (J8 rfl), ⟨.tmp _ _ rfl, tv⟩⟩, rfl⟩, ⟨rfl, rfl, rfl, tv⟩⟩
           ·refine An (Ai Ac rfl (qm rfl (AV rfl (qe rfl ?_))))
            exact sn [(2031, 2040), (2032, 2041), (2033, 2042)] h
        ·refine AT ?_
         exact sn [(2034, 2031), (2035, 2032), (2036, 2033)] h
       ·refine Aj hs (Ai Ac rfl (qf DO rfl (ql IT rfl (qm rfl (qm rfl ?_)))))
        refine Bb h fun v54 a54 b54 h => qI E0 HK a54 (Af b54) rfl ?_
        refine A7 rfl rfl rfl rfl (Af b54) rfl HK rfl (A0 rfl) (A4 ER ((([] : List Int)) ++ p1.fe) _ v35) ?_
        refine Ae ?_
        exact sn [(2001, 2034), (2002, 2035), (2003, 2036)] h
    ·refine Ao (Ar Ac rfl (qf Ca rfl (ql Bi rfl (qm rfl ?_))))
     refine Bb h fun v55 a55 b55 h => qi AE Et a55 (Af b55) rfl (qk CV rfl (AY rfl (Ae ?_)))
     refine Ba h rfl (fun h => ?_) fun h => ?_
     ·refine Ar Ac rfl (Bo FI J4 rfl (qs Bc rfl (qe rfl ?_)))
      obtain rfl := sj h
      refine Aj ((Ay 6 0 2046 1 _ rfl rfl rfl rfl).trans ((Ay 6 1 2047 1 _ rfl rfl rfl rfl).trans ((Ay 6 2 2048 1 _ rfl rfl rfl rfl).trans (sm [(1000, 2046), (1001, 2047), (1002, 2048)] [(6, oD (.ptr 6 0)), (7, bD false)] [(6, .box [.own 1000, .own 1001, .own 1002]), (1000, .vec 1 ((([] : List Int)).map Av)), (1001, .vec 1 ((([] : List Int)).map Av)), (1002, .vec 1 ((([] : List Int)).map ER))] rfl rfl)))) (Aw ?_)
      exact ⟨⟨[_, _], ⟨.cellN _ _ _ _ _ _ _ rfl rfl CM Bc rfl rfl (J8 rfl), ⟨.tmp _ _ rfl, tv⟩⟩, rfl⟩, ⟨rfl, rfl, rfl, tv⟩⟩
     ·refine An (Ai Ac rfl (qf Ca rfl (ql Bi rfl (qm rfl ?_))))
      refine Bb h fun v57 a57 b57 h => qI AE Et a57 (Af b57) rfl ?_
      refine A7 rfl rfl rfl rfl (Af b57) rfl Et rfl (A0 rfl) (A4 Av ((([] : List Int)) ++ p1.fa) _ ((-1))) ?_
      refine Ae ?_
      exact sn [(2001, 18), (2002, 22), (2003, 26)] h
 ·refine Ar Ac rfl (qL CM Bc rfl (qs Bc rfl (qe rfl ?_)))
  obtain rfl := sj h
  refine Aj (sm [(1000, 2001), (1001, 2002), (1002, 2003)] [(6, oD (.ptr 6 0)), (7, bD true)] [(6, .box [.own 1000, .own 1001, .own 1002]), (1000, .vec 1 (v4.1.map Av)), (1001, .vec 1 (v4.2.1.map Av)), (1002, .vec 1 (v4.2.2.map ER))] rfl rfl) (Aw ?_)
  exact ⟨⟨[_, _], ⟨.cellN _ _ _ _ _ _ _ rfl rfl CM Bc rfl rfl (J8 rfl), ⟨.tmp _ _ rfl, tv⟩⟩, rfl⟩, ⟨rfl, rfl, rfl, tv⟩⟩
theorem M2 (N : Nat) (p0 : Ad) (p1 : Ag) (p2 : Ah) (r : Ag × Int) (h : FP N p0 p1 p2 = some r) : Ax Tryz.prog 79 [.e (.agg (Ak p0)), .e (.agg (AQ p1)), .e (.agg (Ed p2))] [(1, r.1.fd.map Av), (1, r.1.fa.map Av), (1, r.1.fe.map ER)] (.tup [.agg [.own 0, .own 1, .own 2], .one (iC r.2)]) := by
 unfold FP at h
 refine Am (n := 73) (rs := [.cell 6 64, .tmp 7]) Tryz.func79 rfl rfl rfl (A0 rfl) (A0 rfl) rfl fun w0 S0 => ?_
 refine Ar Ac rfl (qb rfl (qb rfl (qb rfl (qz FI rfl (qa rfl (Ae (Ao (Ar Ac rfl (qL Dv Ci rfl (qL CM Bc rfl ?_))))))))))
 refine BR h fun v1 a1 h => AC [] (MY N p0 p1 v1 a1) cY rfl (qa rfl (Ae (Ar Ac rfl (qm rfl (CF rfl (Ae ?_))))))
 refine Ba h rfl (fun h => ?_) fun h => ?_
 ·refine Ar Ac rfl (Bo FI J4 rfl (qm rfl (qs Bc rfl (qe rfl ?_))))
  obtain rfl := sj h
  refine Aj ((Ay 6 0 2001 1 _ rfl rfl rfl rfl).trans ((Ay 6 1 2002 1 _ rfl rfl rfl rfl).trans ((Ay 6 2 2003 1 _ rfl rfl rfl rfl).trans (sm [(1000, 2001), (1001, 2002), (1002, 2003)] [(6, oD (.ptr 6 0)), (7, iD v1)] [(6, .box [.own 1000, .own 1001, .own 1002]), (1000, .vec 1 ((([] : List Int)).map Av)), (1001, .vec 1 ((([] : List Int)).map Av)), (1002, .vec 1 ((([] : List Int)).map ER))] rfl rfl)))) (Aw ?_)
  exact ⟨⟨[_, _], ⟨.cellN _ _ _ _ _ _ _ rfl rfl CM Bc rfl rfl (J8 rfl), ⟨.tmp _ _ rfl, tv⟩⟩, rfl⟩, ⟨rfl, rfl, rfl, tv⟩⟩
 ·refine An (Ao (Ar Ac rfl (qL Ia DV rfl ?_)))
  refine BR h fun v3 a3 h => AC [] (M1 N p2 v3 a3) cT rfl (CO rfl (Ae ?_))
  refine Ba h rfl (fun h => ?_) fun h => ?_
  ·refine Ar Ac rfl (Bo FI J4 rfl (qs Bc rfl (qe rfl ?_)))
   obtain rfl := sj h
   refine Aj ((Ay 6 0 2004 1 _ rfl rfl rfl rfl).trans ((Ay 6 1 2005 1 _ rfl rfl rfl rfl).trans ((Ay 6 2 2006 1 _ rfl rfl rfl rfl).trans (sm [(1000, 2004), (1001, 2005), (1002, 2006)] [(6, oD (.ptr 6 0)), (7, iD 1)] [(6, .box [.own 1000, .own 1001, .own 1002]), (1000, .vec 1 ((([] : List Int)).map Av)), (1001, .vec 1 ((([] : List Int)).map Av)), (1002, .vec 1 ((([] : List Int)).map ER))] rfl rfl)))) (Aw ?_)
   exact ⟨⟨[_, _], ⟨.cellN _ _ _ _ _ _ _ rfl rfl CM Bc rfl rfl (J8 rfl), ⟨.tmp _ _ rfl, tv⟩⟩, rfl⟩, ⟨rfl, rfl, rfl, tv⟩⟩
  ·refine An (Ao ?_)
   refine AR h (fun v5 => mk [(3, oD (.ptr 3 0)), (4, oD (.ptr 4 0)), (5, oD (.ptr 5 0)), (6, oD (.ptr 6 0)), (45, bD v5)] [(3, .box (Ak p0)), (4, .box (AQ p1)), (5, .box (Ed p2)), (6, .box [.pure (.nil0), .pure (.nil0), .pure (.nil0)])]) (fun j5 h => ?_) (fun v5 h => ?_)
   ·refine Ai Ac rfl (qf Gs rfl (ql CV rfl (B9 rfl (qm rfl ?_))))
    refine E7 25 h rfl (fun h => ?_) fun h => ?_
    ·refine qf Fz rfl (ql CV rfl (qf BJ rfl (ql GN rfl (AX C9 rfl (Ej rfl (qp rfl (qm rfl ?_)))))))
     refine E7 33 h rfl (fun h => ?_) fun h => ?_
     ·refine qn rfl (qn rfl (qn rfl (qn rfl (qu rfl (qu rfl (qu rfl (qu rfl (qu rfl (qu rfl (qn rfl (qp rfl (Ae ?_))))))))))))
      exact sn [] h
     ·refine qf Gs rfl (ql CV rfl (CF rfl (qm rfl ?_)))
      refine E7 37 h rfl (fun h => ?_) fun h => ?_
      ·refine qf Fz rfl (ql CV rfl (qf BF rfl (ql Bi rfl (AX AE rfl (Ej rfl (qp rfl (qp rfl (Ae ?_))))))))
       exact sn [] h
      ·refine qn rfl (qn rfl (qn rfl (qn rfl (qn rfl (qn rfl (qp rfl (qp rfl (Ae ?_))))))))
       exact sn [] h
    ·refine qn rfl (qn rfl (qn rfl (qn rfl (qn rfl (qn rfl (qp rfl (qm rfl (qf Gs rfl (ql CV rfl (CF rfl (qm rfl ?_)))))))))))
     refine E7 37 h rfl (fun h => ?_) fun h => ?_
     ·refine qf Fz rfl (ql CV rfl (qf BF rfl (ql Bi rfl (AX AE rfl (Ej rfl (qp rfl (qp rfl (Ae ?_))))))))
      exact sn [] h
     ·refine qn rfl (qn rfl (qn rfl (qn rfl (qn rfl (qn rfl (qp rfl (qp rfl (Ae ?_))))))))
      exact sn [] h
   ·refine Ba h rfl (fun h => ?_) fun h => ?_
    ·refine Ar Ac rfl (Bo FI J4 rfl (qs Bc rfl (qe rfl ?_)))
     obtain rfl := sj h
     refine Aj ((Ay 6 0 2007 1 _ rfl rfl rfl rfl).trans ((Ay 6 1 2008 1 _ rfl rfl rfl rfl).trans ((Ay 6 2 2009 1 _ rfl rfl rfl rfl).trans (sm [(1000, 2007), (1001, 2008), (1002, 2009)] [(6, oD (.ptr 6 0)), (7, iD 4)] [(6, .box [.own 1000, .own 1001, .own 1002]), (1000, .vec 1 ((([] : List Int)).map Av)), (1001, .vec 1 ((([] : List Int)).map Av)), (1002, .vec 1 ((([] : List Int)).map ER))] rfl rfl)))) (Aw ?_)
     exact ⟨⟨[_, _], ⟨.cellN _ _ _ _ _ _ _ rfl rfl CM Bc rfl rfl (J8 rfl), ⟨.tmp _ _ rfl, tv⟩⟩, rfl⟩, ⟨rfl, rfl, rfl, tv⟩⟩
    ·refine An (Ao ?_)
     refine AR h (fun v11 => mk [(3, oD (.ptr 3 0)), (4, oD (.ptr 4 0)), (5, oD (.ptr 5 0)), (6, oD (.ptr 6 0)), (60, bD v11)] [(3, .box (Ak p0)), (4, .box (AQ p1)), (5, .box (Ed p2)), (6, .box [.pure (.nil0), .pure (.nil0), .pure (.nil0)])]) (fun j11 h => ?_) (fun v11 h => ?_)
     ·refine Ai Ac rfl (qf Gs rfl (ql CV rfl (B9 rfl (qm rfl ?_))))
      refine E7 50 h rfl (fun h => ?_) fun h => ?_
      ·refine qf Hr rfl (ql CV rfl (qf BF rfl (ql Bi rfl (qf Fz rfl (ql CV rfl ?_)))))
       refine Bb h fun v13 a13 b13 h => qi AE Et a13 (Af b13) rfl (qk CV rfl (Ej rfl (qp rfl (AI (by kernel_rfl) ?_))))
       exact sn [] h
      ·refine qn rfl (qn rfl (qn rfl (qn rfl (qn rfl (qn rfl (qn rfl (qn rfl (qn rfl (qp rfl (AI (by kernel_rfl) ?_))))))))))
       exact sn [] h
     ·refine Ba h rfl (fun h => ?_) fun h => ?_
      ·refine Ar Ac rfl (Bo FI J4 rfl (qs Bc rfl (qe rfl ?_)))
       obtain rfl := sj h
       refine Aj ((Ay 6 0 2010 1 _ rfl rfl rfl rfl).trans ((Ay 6 1 2011 1 _ rfl rfl rfl rfl).trans ((Ay 6 2 2012 1 _ rfl rfl rfl rfl).trans (sm [(1000, 2010), (1001, 2011), (1002, 2012)] [(6, oD (.ptr 6 0)), (7, iD 4)] [(6, .box [.own 1000, .own 1001, .own 1002]), (1000, .vec 1 ((([] : List Int)).map Av)), (1001, .vec 1 ((([] : List Int)).map Av)), (1002, .vec 1 ((([] : List Int)).map ER))] rfl rfl)))) (Aw ?_)
       exact ⟨⟨[_, _], ⟨.cellN _ _ _ _ _ _ _ rfl rfl CM Bc rfl rfl (J8 rfl), ⟨.tmp _ _ rfl, tv⟩⟩, rfl⟩, ⟨rfl, rfl, rfl, tv⟩⟩
      ·refine An (Ar Ac rfl (qL Dv Ci rfl (qL CM Bc rfl (qL Ia DV rfl ?_))))
       refine BR h fun v15 a15 h => AC [2013, 2014, 2015] (JQ N p0 p1 p2 v15 a15) ZV rfl (qm rfl (qx rfl (qx rfl (qz FI rfl (qs Bc rfl (qa rfl (Ae (Ao (Ar Ac rfl (qm rfl (CO rfl (Ae ?_))))))))))))
       refine Ba h rfl (fun h => ?_) fun h => ?_
       ·refine Ar Ac rfl (Bo FI J4 rfl (qs Bc rfl (qe rfl ?_)))
        obtain rfl := sj h
        refine Aj ((Ay 6 0 2016 1 _ rfl rfl rfl rfl).trans ((Ay 6 1 2017 1 _ rfl rfl rfl rfl).trans ((Ay 6 2 2018 1 _ rfl rfl rfl rfl).trans (sm [(1000, 2016), (1001, 2017), (1002, 2018)] [(6, oD (.ptr 6 0)), (7, iD 11)] [(6, .box [.own 1000, .own 1001, .own 1002]), (1000, .vec 1 ((([] : List Int)).map Av)), (1001, .vec 1 ((([] : List Int)).map Av)), (1002, .vec 1 ((([] : List Int)).map ER))] rfl rfl)))) (Aw ?_)
        exact ⟨⟨[_, _], ⟨.cellN _ _ _ _ _ _ _ rfl rfl CM Bc rfl rfl (J8 rfl), ⟨.tmp _ _ rfl, tv⟩⟩, rfl⟩, ⟨rfl, rfl, rfl, tv⟩⟩
       ·refine An (Ar Ac rfl (qL CM Bc rfl (qs Bc rfl (qe rfl ?_))))
        obtain rfl := sj h
        refine Aj (sm [(1000, 2013), (1001, 2014), (1002, 2015)] [(6, oD (.ptr 6 0)), (7, iD 0)] [(6, .box [.own 1000, .own 1001, .own 1002]), (1000, .vec 1 (v15.1.fd.map Av)), (1001, .vec 1 (v15.1.fa.map Av)), (1002, .vec 1 (v15.1.fe.map ER))] rfl rfl) (Aw ?_)
        exact ⟨⟨[_, _], ⟨.cellN _ _ _ _ _ _ _ rfl rfl CM Bc rfl rfl (J8 rfl), ⟨.tmp _ _ rfl, tv⟩⟩, rfl⟩, ⟨rfl, rfl, rfl, tv⟩⟩
theorem MX (N : Nat) (p0 : Ad) (p1 : Ag) (r : (List Ah)) (h : FW N p0 p1 = some r) : Ax Tryz.prog 119 [.e (.agg (Ak p0)), .e (.agg (AQ p1))] [(3, r.map AN)] (oD (.own 0)) := by
 unfold FW at h
 refine Am (n := 49) (rs := [.tmp 4]) Tryz.func119 rfl rfl rfl (A0 rfl) (A0 rfl) rfl fun w0 S0 => ?_
 refine Ar Ac rfl (qb rfl (qb rfl (qa rfl (Ae (Ar Ac rfl (qa rfl (Ae (Ao (Ar Ac rfl (qe rfl ?_))))))))))
 refine AA (L := BP N p0 p1) h (fun v1 => mk [(2, oD (.ptr 2 0)), (3, oD (.ptr 3 0)), (5, oD (.own 2001)), (6, iD v1.2)] [(2, .box (Ak p0)), (3, .box (AQ p1)), (2001, .vec 3 (v1.1.map AN))]) (fun v2 => mk [(5, oD (.own 2002))] [(2002, .vec 3 (v2.map AN))]) (fun _ _ => rfl) ((Bf 5 2011 3 rfl rfl rfl).trans (sm [(2001, 2011)] _ _ rfl rfl)) (fun j1 n1 v1 h => ?_) (fun v2 s h hs => ?_)
 ·unfold BP at h
  refine Ao (Ar Ac rfl (qm rfl (KT rfl (Ae ?_))))
  refine Ba h rfl (fun h => ?_) fun h => ?_
  ·refine An (Ao (AJ (Ar Ac rfl (qe rfl ?_))))
   refine AA (L := CS N p0 p1 v1) h (fun v4 => mk [(2, oD (.ptr 2 0)), (3, oD (.ptr 3 0)), (5, oD (.own 2003)), (6, iD v1.2), (7, iD v4.2)] [(2, .box (Ak p0)), (3, .box (AQ p1)), (2003, .vec 3 (v4.1.map AN))]) (fun v5 => mk [(2, oD (.ptr 2 0)), (3, oD (.ptr 3 0)), (5, oD (.own 2004)), (6, iD v1.2)] [(2, .box (Ak p0)), (3, .box (AQ p1)), (2004, .vec 3 (v5.map AN))]) (fun _ _ => rfl) (sm [(2003, 2001)] _ _ rfl rfl) (fun j4 n4 v4 h => ?_) (fun v5 s h hs => ?_)
   ·unfold CS at h
    refine Ao (Ar Ac rfl (qm rfl (qf BF rfl (ql Bi rfl (AX AE rfl (qf BJ rfl (ql GN rfl (AX C9 rfl ?_))))))))
    refine bZ (.p rfl) rfl rfl ?_
    refine AY rfl (Ae ?_)
    refine Ba h rfl (fun h => ?_) fun h => ?_
    ·refine An (Ao (AJ (Ar Ac rfl (qe rfl ?_))))
     refine AA (L := CR N p0 p1 v1 v4) h (fun v7 => mk [(2, oD (.ptr 2 0)), (3, oD (.ptr 3 0)), (5, oD (.own 2005)), (6, iD v1.2), (7, iD v4.2), (8, iD v7.2)] [(2, .box (Ak p0)), (3, .box (AQ p1)), (2005, .vec 3 (v7.1.map AN))]) (fun v8 => mk [(2, oD (.ptr 2 0)), (3, oD (.ptr 3 0)), (5, oD (.own 2006)), (6, iD v1.2), (7, iD v4.2)] [(2, .box (Ak p0)), (3, .box (AQ p1)), (2006, .vec 3 (v8.map AN))]) (fun _ _ => rfl) (sm [(2005, 2003)] _ _ rfl rfl) (fun j7 n7 v7 h => ?_) (fun v8 s h hs => ?_)
     ·unfold CR at h
      refine Ao (Ar Ac rfl (qm rfl (AY rfl (Ae ?_))))
      refine Ba h rfl (fun h => ?_) fun h => ?_
      ·refine An ?_
       refine AR h (fun v10 => mk [(2, oD (.ptr 2 0)), (3, oD (.ptr 3 0)), (5, oD (.own 2007)), (6, iD v1.2), (7, iD v4.2), (8, iD v7.2)] [(2, .box (Ak p0)), (3, .box (AQ p1)), (2007, .vec 3 (v10.map AN))]) (fun j10 h => ?_) (fun v10 h => ?_)
       ·refine AJ (Ar Ac rfl (qm rfl (qm rfl (qm rfl (Bo Jf Wg rfl (qz Jf rfl (qs DV rfl (Ae (Ar Ac rfl (qL Dv Ci rfl (qL CM Bc rfl (qL Ia DV rfl ?_))))))))))))
        refine BR h fun v11 a11 h => AC [2008, 2009, 2010] (M2 N p0 p1 ((Ah.mk v1.2 v4.2 v7.2)) v11 a11) eM rfl (qm rfl (qx rfl (qx rfl (qz FI rfl (qs Bc rfl (qa rfl (Ae (Ar Ac rfl (qm rfl (B9 rfl (Ae ?_)))))))))))
        refine Ba h rfl (fun h => ?_) fun h => ?_
        ·refine Ai Ac rfl (qm rfl (qL Ia DV rfl (E5 Ga DV Jf rfl ?_)))
         refine GA h fun c13 h => Ew (f := AN) Ga Ga DV QX Jf c13 rfl (qe rfl ?_)
         exact sn [(2007, 47)] h
        ·refine An ?_
         exact sn [(2007, 2005)] h
       ·refine Ai Ac rfl (qm rfl (AV rfl (qe rfl ?_)))
        exact sn [(2005, 2007)] h
      ·refine AT ?_
       exact sn [(2006, 2005)] h
     ·refine Aj hs (Ai Ac rfl (qm rfl (AV rfl (qe rfl ?_))))
      exact sn [(2003, 2006)] h
    ·refine AT ?_
     exact sn [(2004, 2003)] h
   ·refine Aj hs (Ai Ac rfl (qm rfl (AV rfl (qe rfl ?_))))
    exact sn [(2001, 2004)] h
  ·refine AT ?_
   exact sn [(2002, 2001)] h
 ·refine Aj hs (Ar Ac rfl (qm rfl (qe rfl ?_)))
  obtain rfl := sj h
  refine Aj (sm [(1000, 2002)] [(4, oD (.own 1000))] [(1000, .vec 3 (v2.map AN))] rfl rfl) (Aw ?_)
  exact ⟨⟨[_], ⟨.tmp _ _ rfl, tv⟩, rfl⟩, ⟨rfl, tv⟩⟩
theorem IB (N : Nat) (p0 : List Int) (p1 : List Int) (r : Int) (h : Ey N p0 p1 = some r) : Ax Tryz.prog 159 [pD (.sl (p0.map Av)), pD (.sl (p1.map Av))] [] (iD r) := by
 unfold Ey at h
 refine Am (n := 46) (rs := [.tmp 4]) Tryz.func159 rfl rfl rfl (A0 rfl) (A0 rfl) rfl fun w0 S0 => ?_
 refine Ar Ac rfl (qa rfl (Ae (Ao (Ar Ac rfl (qe rfl ?_)))))
 refine AA (L := El N p0 p1) h (fun v1 => mk [(0, pD (.sl (p0.map Av))), (1, pD (.sl (p1.map Av))), (5, iD v1)] []) (fun v2 => mk [(0, pD (.sl (p0.map Av))), (1, pD (.sl (p1.map Av)))] []) (fun _ _ => rfl) (sm [] _ _ rfl rfl) (fun j1 n1 v1 h => ?_) (fun v2 s h hs => ?_)
 ·unfold El at h
  refine Ao ?_
  refine AR h (fun v3 => mk [(0, pD (.sl (p0.map Av))), (1, pD (.sl (p1.map Av))), (5, iD v1), (15, bD v3)] []) (fun j3 h => ?_) (fun v3 h => ?_)
  ·refine Ai Ac rfl (qm rfl (qm rfl (AX AE rfl (AY rfl (qm rfl ?_)))))
   refine E7 10 h rfl (fun h => ?_) fun h => ?_
   ·refine qm rfl (qm rfl (AX AE rfl (AY rfl (qp rfl (Ae ?_)))))
    exact sn [] h
   ·refine qn rfl (qn rfl (qn rfl (qn rfl (qp rfl (Ae ?_)))))
    exact sn [] h
  ·refine Ba h rfl (fun h => ?_) fun h => ?_
   ·refine An (Ao (AJ (Ao (Ar Ac rfl (qm rfl (qm rfl ?_))))))
    refine Bb h fun v6 a6 b6 h => qi AE Et a6 (Af b6) rfl (qk CV rfl (qm rfl (qm rfl ?_)))
    refine Bb h fun v7 a7 b7 h => qi AE Et a7 (Af b7) rfl (qk CV rfl (AY rfl (AI (by kernel_rfl) ?_)))
    refine Ba h rfl (fun h => ?_) fun h => ?_
    ·refine Ar Ac rfl (qe rfl ?_)
     obtain rfl := sj h
     refine Aj (sm [] [(4, iD ((-1)))] [] rfl rfl) (Aw ?_)
     exact ⟨⟨[_], ⟨.tmp _ _ rfl, tv⟩, rfl⟩, tv⟩
    ·refine An (Ar Ac rfl (qm rfl (qm rfl ?_)))
     refine Bb h fun v9 a9 b9 h => qi AE Et a9 (Af b9) rfl (qk CV rfl (qm rfl (qm rfl ?_)))
     refine Bb h fun v10 a10 b10 h => qi AE Et a10 (Af b10) rfl (qk CV rfl (GB rfl (AI (by kernel_rfl) ?_)))
     refine Ba h rfl (fun h => ?_) fun h => ?_
     ·refine Ar Ac rfl (qe rfl ?_)
      obtain rfl := sj h
      refine Aj (sm [] [(4, iD 1)] [] rfl rfl) (Aw ?_)
      exact ⟨⟨[_], ⟨.tmp _ _ rfl, tv⟩, rfl⟩, tv⟩
     ·refine An (Ai Ac rfl (qm rfl (AV rfl (qe rfl ?_))))
      exact sn [] h
   ·refine AT ?_
    exact sn [] h
 ·refine Aj hs (Ao (Ar Ac rfl (qm rfl (AX AE rfl (qm rfl (AX AE rfl (AY rfl (Ae ?_))))))))
  refine Ba h rfl (fun h => ?_) fun h => ?_
  ·refine Ar Ac rfl (qe rfl ?_)
   obtain rfl := sj h
   refine Aj (sm [] [(4, iD ((-1)))] [] rfl rfl) (Aw ?_)
   exact ⟨⟨[_], ⟨.tmp _ _ rfl, tv⟩, rfl⟩, tv⟩
  ·refine An (Ao (Ar Ac rfl (qm rfl (AX AE rfl (qm rfl (AX AE rfl (GB rfl (Ae ?_))))))))
   refine Ba h rfl (fun h => ?_) fun h => ?_
   ·refine Ar Ac rfl (qe rfl ?_)
    obtain rfl := sj h
    refine Aj (sm [] [(4, iD 1)] [] rfl rfl) (Aw ?_)
    exact ⟨⟨[_], ⟨.tmp _ _ rfl, tv⟩, rfl⟩, tv⟩
   ·refine An (Ar Ac rfl (qe rfl ?_))
    obtain rfl := sj h
    refine Aj (sm [] [(4, iD 0)] [] rfl rfl) (Aw ?_)
    exact ⟨⟨[_], ⟨.tmp _ _ rfl, tv⟩, rfl⟩, tv⟩
theorem Je (N : Nat) (p0 : List Int) (r : (List Int)) (h : Es N p0 = some r) : Ax Tryz.prog 160 [pD (.sl (p0.map ER))] [(1, r.map Av)] (oD (.own 0)) := by
 unfold Es at h
 refine Am (n := 20) (rs := [.tmp 2]) Tryz.func160 rfl rfl rfl (A0 rfl) (A0 rfl) rfl fun w0 S0 => ?_
 refine Ar Ac rfl (qa rfl (Ae (Ar Ac rfl (qa rfl (Ae (Ao (Ar Ac rfl (qe rfl ?_))))))))
 refine AA (L := DH N p0) h (fun v1 => mk [(0, pD (.sl (p0.map ER))), (3, oD (.own 2001)), (4, iD v1.2)] [(2001, .vec 1 (v1.1.map Av))]) (fun v2 => mk [(3, oD (.own 2002))] [(2002, .vec 1 (v2.map Av))]) (fun _ _ => rfl) ((Bf 3 2003 1 rfl rfl rfl).trans (sm [(2001, 2003)] _ _ rfl rfl)) (fun j1 n1 v1 h => ?_) (fun v2 s h hs => ?_)
 ·unfold DH at h
  refine Ao (Ar Ac rfl (qm rfl (qm rfl (AX E0 rfl (AY rfl (Ae ?_))))))
  refine Ba h rfl (fun h => ?_) fun h => ?_
  ·refine An (Ao (AJ (Ai Ac rfl (qm rfl (qm rfl (qm rfl ?_))))))
   refine Bb h fun v4 a4 b4 h => qi E0 HK a4 (Af b4) rfl (qk Mj rfl (Ja d6 XX rfl (E5 AE Et Lt rfl ?_)))
   refine GA h fun c5 h => Ew (f := Av) AE AE Et Ms Lt c5 rfl (qa rfl (Ae (Ai Ac rfl (qm rfl (AV rfl (qe rfl ?_))))))
   exact sn [(2001, 18)] h
  ·refine AT ?_
   exact sn [(2002, 2001)] h
 ·refine Aj hs (Ar Ac rfl (qm rfl (qe rfl ?_)))
  obtain rfl := sj h
  refine Aj (sm [(1000, 2002)] [(2, oD (.own 1000))] [(1000, .vec 1 (v2.map Av))] rfl rfl) (Aw ?_)
  exact ⟨⟨[_], ⟨.tmp _ _ rfl, tv⟩, rfl⟩, ⟨rfl, tv⟩⟩
theorem L2 (N : Nat) (p0 : Ag) (p1 : Ag) (r : Int) (h : Fd N p0 p1 = some r) : Ax Tryz.prog 155 [.e (.agg (AQ p0)), .e (.agg (AQ p1))] [] (iD r) := by
 unfold Fd at h
 refine Am (n := 30) (rs := [.tmp 4]) Tryz.func155 rfl rfl rfl (A0 rfl) (A0 rfl) rfl fun w0 S0 => ?_
 refine Ar Ac rfl (qb rfl (qb rfl (qa rfl (Ae (Ao (Ar Ac rfl (qf D0 rfl (ql Bi rfl (qf D0 rfl (ql Bi rfl ?_))))))))))
 refine BR h fun v1 a1 h => AC [] (IB N p0.fd p1.fd v1 a1) XJ rfl (qa rfl (Ae (Ar Ac rfl (qm rfl (CF rfl (Ae ?_))))))
 refine Ba h rfl (fun h => ?_) fun h => ?_
 ·refine Ar Ac rfl (qm rfl (qe rfl ?_))
  obtain rfl := sj h
  refine Aj (sm [] [(4, iD v1)] [] rfl rfl) (Aw ?_)
  exact ⟨⟨[_], ⟨.tmp _ _ rfl, tv⟩, rfl⟩, tv⟩
 ·refine An (Ao (Ar Ac rfl (qf Ca rfl (ql Bi rfl (qf Ca rfl (ql Bi rfl ?_))))))
  refine BR h fun v3 a3 h => AC [] (IB N p0.fa p1.fa v3 a3) XJ rfl (qa rfl (Ae (Ar Ac rfl (qm rfl (CF rfl (Ae ?_))))))
  refine Ba h rfl (fun h => ?_) fun h => ?_
  ·refine Ar Ac rfl (qm rfl (qe rfl ?_))
   obtain rfl := sj h
   refine Aj (sm [] [(4, iD v3)] [] rfl rfl) (Aw ?_)
   exact ⟨⟨[_], ⟨.tmp _ _ rfl, tv⟩, rfl⟩, tv⟩
  ·refine An (Ar Ac rfl (qf DO rfl (ql IT rfl ?_)))
   refine BR h fun v5 a5 h => AC [2001] (Je N p0.fe v5 a5) Z4 rfl (qf DO rfl (ql IT rfl ?_))
   refine BR h fun v6 a6 h => AC [2002] (Je N p1.fe v6 a6) Z4 rfl ?_
   refine BR h fun v7 a7 h => Fp [] [2001, 2002] (IB N v5 v6 v7 a7) XJ Dr rfl (qa rfl (AI (by kernel_rfl) ?_))
   obtain rfl := sj h
   refine Aj (sm [] [(4, iD v7)] [] rfl rfl) (Aw ?_)
   exact ⟨⟨[_], ⟨.tmp _ _ rfl, tv⟩, rfl⟩, tv⟩
theorem M4 (N : Nat) (p0 : Ag) (p1 : Ag) (r : Bool) (h : FL N p0 p1 = some r) : Ax Tryz.prog 145 [.e (.agg (AQ p0)), .e (.agg (AQ p1))] [] (bD r) := by
 unfold FL at h
 refine Am (n := 9) (rs := [.tmp 4]) Tryz.func145 rfl rfl rfl (A0 rfl) (A0 rfl) rfl fun w0 S0 => ?_
 refine Ar Ac rfl (qb rfl (qb rfl (qa rfl (Ae (Ar Ac rfl (qL CM Bc rfl (qL CM Bc rfl ?_)))))))
 refine BR h fun v1 a1 h => AC [] (L2 N p0 p1 v1 a1) bW rfl (B9 rfl (qe rfl ?_))
 obtain rfl := sj h
 refine Aj (sm [] [(4, bD ((v1 == 0)))] [] rfl rfl) (Aw ?_)
 exact ⟨⟨[_], ⟨.tmp _ _ rfl, tv⟩, rfl⟩, tv⟩
theorem Np (N : Nat) (p0 : List AM) (p1 : Ag) (r : Int) (h : Ff N p0 p1 = some r) : Ax Tryz.prog 120 [pD (.sl (p0.map CZ)), .e (.agg (AQ p1))] [] (iD r) := by
 unfold Ff at h
 refine Am (n := 20) (rs := [.tmp 4]) Tryz.func120 rfl rfl rfl (A0 rfl) (A0 rfl) rfl fun w0 S0 => ?_
 refine Ar Ac rfl (qb rfl (qa rfl (Ae (Ao (Ar Ac rfl (qe rfl ?_))))))
 refine AA (L := C3 N p0 p1) h (fun v1 => mk [(0, pD (.sl (p0.map CZ))), (3, oD (.ptr 3 0)), (5, iD v1)] [(3, .box (AQ p1))]) (fun v2 => mk [] []) (fun _ _ => rfl) (sm [] _ _ rfl rfl) (fun j1 n1 v1 h => ?_) (fun v2 s h hs => ?_)
 ·unfold C3 at h
  refine Ao (Ar Ac rfl (qm rfl (qm rfl (AX K7 rfl (AY rfl (Ae ?_))))))
  refine Ba h rfl (fun h => ?_) fun h => ?_
  ·refine An (Ao (AJ (Ar Ac rfl (qm rfl (qm rfl ?_)))))
   refine Bb h fun v4 a4 b4 h => qi K7 Sg a4 (Af b4) rfl (qg QW rfl (qK CM Bc rfl (qL CM Bc rfl ?_)))
   refine BR h fun v5 a5 h => AC [] (M4 N ((Ag.mk v4.fy.fd v4.fy.fa v4.fy.fe)) p1 v5 a5) cO rfl (AI (by kernel_rfl) ?_)
   refine Ba h rfl (fun h => ?_) fun h => ?_
   ·refine Ar Ac rfl (qm rfl (qe rfl ?_))
    obtain rfl := sj h
    refine Aj (sm [] [(4, iD v1)] [] rfl rfl) (Aw ?_)
    exact ⟨⟨[_], ⟨.tmp _ _ rfl, tv⟩, rfl⟩, tv⟩
   ·refine An (Ai Ac rfl (qm rfl (AV rfl (qe rfl ?_))))
    exact sn [] h
  ·refine AT ?_
   exact sn [] h
 ·refine Aj hs (Ar Ac rfl (qe rfl ?_))
  obtain rfl := sj h
  refine Aj (sm [] [(4, iD ((-1)))] [] rfl rfl) (Aw ?_)
  exact ⟨⟨[_], ⟨.tmp _ _ rfl, tv⟩, rfl⟩, tv⟩
theorem MS (N : Nat) (p0 : Ad) (p1 : Ag) (p2 : Int) (r : (List AM) × Bool) (h : ET N p0 p1 p2 = some r) : Ax Tryz.prog 85 [.e (.agg (Ak p0)), .e (.agg (AQ p1)), iD p2] [(7, r.1.map CZ)] (.tup [.one (.own 0), .one (.pure (.val (.bool r.2)))]) := by
 unfold ET at h
 refine Am (n := 74) (rs := [.tmp 6, .tmp 7]) Tryz.func85 rfl rfl rfl (A0 rfl) (A0 rfl) rfl fun w0 S0 => ?_
 refine Ar Ac rfl (qb rfl (qb rfl (qa rfl (qa rfl (Ae (Ar Ac rfl (qL CM Bc rfl (Bo Tp aj rfl (E5 K7 Sg Tp rfl (qa rfl (Ae (Ao (Ar Ac rfl (qe rfl ?_))))))))))))))
 refine AA (L := Cf N p0 p2) h (fun v1 => mk [(2, iD p2), (3, oD (.ptr 3 0)), (8, oD (.own 2001)), (9, iD v1.2)] [(3, .box (Ak p0)), (2001, .vec 7 (v1.1.map CZ))]) (fun v2 => mk [(8, oD (.own 2002))] [(2002, .vec 7 (v2.map CZ))]) (fun _ _ => rfl) (sm [(2001, 16)] _ _ rfl rfl) (fun j1 n1 v1 h => ?_) (fun v2 s h hs => ?_)
 ·unfold Cf at h
  refine Ao (Ar Ac rfl (qm rfl (qm rfl (D4 K7 rfl (AY rfl (Ae ?_))))))
  refine Ba h rfl (fun h => ?_) fun h => ?_
  ·refine An (Ao (AJ (Ar Ac rfl (qL Dv Ci rfl (qm rfl (qm rfl ?_))))))
   refine Bb h fun v4 a4 b4 h => qI K7 Sg a4 (Af b4) rfl (qh QW rfl ?_)
   refine UR (.p rfl) rfl CM Bc rfl (Af b4) rfl rfl (by decide) ?_
   refine BR h fun v5 a5 h => AC [2003] (MX N p0 ((Ag.mk v4.fy.fd v4.fy.fa v4.fy.fe)) v5 a5) dz rfl (qa rfl (AI (by kernel_rfl) (Ar Ac rfl (qe rfl ?_))))
   refine AA (L := Cd N p0 p2 v1 v5) h (fun v6 => mk [(2, iD p2), (3, oD (.ptr 3 0)), (8, oD (.own 2004)), (9, iD v1.2), (10, oD (.own 2005)), (11, iD v6.2)] [(3, .box (Ak p0)), (2004, .vec 7 (v6.1.map CZ)), (2005, .vec 3 (v5.map AN))]) (fun v7 => mk [(2, iD p2), (3, oD (.ptr 3 0)), (8, oD (.own 2006)), (9, iD v1.2)] [(3, .box (Ak p0)), (2006, .vec 7 (v7.map CZ))]) (fun _ _ => rfl) (sm [(2004, 2001), (2005, 2003)] _ _ rfl rfl) (fun j6 n6 v6 h => ?_) (fun v7 s h hs => ?_)
   ·unfold Cd at h
    refine Ao (Ar Ac rfl (qm rfl (qm rfl (D4 Ga rfl (AY rfl (Ae ?_))))))
    refine Ba h rfl (fun h => ?_) fun h => ?_
    ·refine An (Ao (AJ (Ar Ac rfl (qL Dv Ci rfl (qm rfl (qm rfl ?_))))))
     refine Bb h fun v9 a9 b9 h => qI K7 Sg a9 (Af b9) rfl (qh QW rfl ?_)
     refine UR (.p rfl) rfl CM Bc rfl (Af b9) rfl rfl (by decide) ?_
     refine qm rfl (qm rfl ?_)
     refine Bb h fun v10 a10 b10 h => qI Ga DV a10 (Af b10) rfl (qJ Ia DV (Af b10) rfl ?_)
     refine BR h fun v11 a11 h => AC [2007, 2008, 2009] (JQ N p0 ((Ag.mk v9.fy.fd v9.fy.fa v9.fy.fe)) v10 v11 a11) ZV rfl (qm rfl (qx rfl (qx rfl (qz FI rfl (qs Bc rfl (qa rfl (AI (by kernel_rfl) ?_)))))))
     refine AR h (fun v12 => mk [(2, iD p2), (3, oD (.ptr 3 0)), (8, oD (.own 2010)), (9, iD v1.2), (10, oD (.own 2011)), (11, iD v6.2)] [(3, .box (Ak p0)), (2010, .vec 7 (v12.map CZ)), (2011, .vec 3 (v5.map AN))]) (fun j12 h => ?_) (fun v12 h => ?_)
     ·refine AR h (fun v13 => mk [(2, iD p2), (3, oD (.ptr 3 0)), (8, oD (.own 2015)), (9, iD v1.2), (10, oD (.own 2016)), (11, iD v6.2), (12, oD (.ptr 12 0)), (58, bD v13)] [(3, .box (Ak p0)), (12, .box [.own 2012, .own 2013, .own 2014]), (2012, .vec 1 (v11.1.fd.map Av)), (2013, .vec 1 (v11.1.fa.map Av)), (2014, .vec 1 (v11.1.fe.map ER)), (2015, .vec 7 (v6.1.map CZ)), (2016, .vec 3 (v5.map AN))]) (fun j13 h => ?_) (fun v13 h => ?_)
      ·refine Ai Ac rfl (qL Dv Ci rfl (qL CM Bc rfl ?_))
       refine BR h fun v14 a14 h => Fp [] [2007, 2008, 2009] (I2 N p0 v11.1 v14 a14) dk Dr rfl (qm rfl ?_)
       refine E7 53 h rfl (fun h => ?_) fun h => ?_
       ·refine qm rfl (qL CM Bc rfl ?_)
        refine BR h fun v16 a16 h => Fp [] [2004, 2007, 2008, 2009] (Np N v6.1 v11.1 v16 a16) dF Dr rfl (AY rfl (qp rfl (Ae ?_)))
        exact sn [(2012, 2007), (2013, 2008), (2014, 2009), (2015, 2004), (2016, 2005)] h
       ·refine qn rfl (qn rfl (qn rfl (qn rfl (qp rfl (Ae ?_)))))
        exact sn [(2012, 2007), (2013, 2008), (2014, 2009), (2015, 2004), (2016, 2005)] h
      ·refine Ba h rfl (fun h => ?_) fun h => ?_
       ·refine Aj (BD 2012 _ _ rfl rfl) (Aj (BD 2013 _ _ rfl rfl) (Aj (BD 2014 _ _ rfl rfl) (Ai Ac rfl (qm rfl (qL CM Bc rfl (qm rfl (qm rfl (qm rfl ?_))))))))
        refine Bb h fun v18 a18 b18 h => qI Ga DV a18 (Af b18) rfl (qJ Ia DV (Af b18) rfl (Bo Tp aj rfl (E5 K7 Sg Tp rfl ?_)))
        refine GA h fun c19 h => Ew (f := CZ) K7 K7 Sg bg Tp c19 rfl (qa rfl (AI (by kernel_rfl) ?_))
        exact sn [(2010, 68), (2011, 2016)] h
       ·refine An ?_
        exact sn [(2010, 2015), (2011, 2016)] h
     ·refine Ar Ac rfl (qm rfl (D4 K7 rfl (qm rfl (GB rfl (Ae ?_)))))
      refine Ba h rfl (fun h => ?_) fun h => ?_
      ·refine Ar Ac rfl (qa rfl (qe rfl ?_))
       obtain rfl := sj h
       refine Aj ((Bf 6 2017 7 rfl rfl rfl).trans (sm [(1000, 2017)] [(6, oD (.own 1000)), (7, bD false)] [(1000, .vec 7 ((([] : List AM)).map CZ))] rfl rfl)) (Aw ?_)
       exact ⟨⟨[_, _], ⟨.tmp _ _ rfl, ⟨.tmp _ _ rfl, tv⟩⟩, rfl⟩, ⟨rfl, tv⟩⟩
      ·refine An (Ai Ac rfl (qm rfl (AV rfl (qe rfl ?_))))
       exact sn [(2004, 2010), (2005, 2011)] h
    ·refine AT ?_
     exact sn [(2006, 2004)] h
   ·refine Aj hs (Ai Ac rfl (qm rfl (AV rfl (qe rfl ?_))))
    exact sn [(2001, 2006)] h
  ·refine AT ?_
   exact sn [(2002, 2001)] h
 ·refine Aj hs (Ar Ac rfl (qm rfl (qa rfl (qe rfl ?_))))
  obtain rfl := sj h
  refine Aj (sm [(1000, 2002)] [(6, oD (.own 1000)), (7, bD true)] [(1000, .vec 7 (v2.map CZ))] rfl rfl) (Aw ?_)
  exact ⟨⟨[_, _], ⟨.tmp _ _ rfl, ⟨.tmp _ _ rfl, tv⟩⟩, rfl⟩, ⟨rfl, tv⟩⟩
theorem MT (N : Nat) (p0 : Ad) (p1 : Int) (r : Bool) (h : zFS N p0 p1 = some r) : Ax Tryz.prog 59 [.e (.agg (Ak p0)), iD p1] [] (bD r) := by
 unfold zFS at h
 refine Am (n := 30) (rs := [.tmp 4]) Tryz.func59 rfl rfl rfl (A0 rfl) (A0 rfl) rfl fun w0 S0 => ?_
 refine Ar Ac rfl (qb rfl (qa rfl (Ae (Ar Ac rfl (qL Dv Ci rfl ?_)))))
 refine BR h fun v1 a1 h => AC [2001, 2002, 2003] (M3 N p0 v1 a1) eN rfl (qm rfl (qx rfl (qx rfl (qz FI rfl (qs Bc rfl (qa rfl (Ae (Ao ?_))))))))
 refine AR h (fun v2 => mk [(1, iD p1), (2, oD (.ptr 2 0)), (5, oD (.ptr 5 0)), (21, bD v2)] [(2, .box (Ak p0)), (5, .box [.own 2004, .own 2005, .own 2006]), (2004, .vec 1 (v1.1.fd.map Av)), (2005, .vec 1 (v1.1.fa.map Av)), (2006, .vec 1 (v1.1.fe.map ER))]) (fun j2 h => ?_) (fun v2 h => ?_)
 ·refine Ai Ac rfl (qm rfl (CF rfl (qm rfl ?_)))
  refine E7 16 h rfl (fun h => ?_) fun h => ?_
  ·refine qn rfl (qn rfl (qn rfl (qn rfl (qp rfl (Ae ?_)))))
   exact sn [(2004, 2001), (2005, 2002), (2006, 2003)] h
  ·refine qL Dv Ci rfl (qL CM Bc rfl ?_)
   refine BR h fun v4 a4 h => Fp [] [2001, 2002, 2003] (I2 N p0 v1.1 v4 a4) dk Dr rfl (CO rfl (qp rfl (Ae ?_)))
   exact sn [(2004, 2001), (2005, 2002), (2006, 2003)] h
 ·refine Ba h rfl (fun h => ?_) fun h => ?_
  ·refine Ar Ac rfl (qe rfl ?_)
   obtain rfl := sj h
   refine Aj (sm [] [(4, bD true)] [] rfl rfl) (Aw ?_)
   exact ⟨⟨[_], ⟨.tmp _ _ rfl, tv⟩, rfl⟩, tv⟩
  ·refine An (Ar Ac rfl (qL Dv Ci rfl (qL CM Bc rfl (qm rfl (EF (BD 2004 _ _ rfl rfl) (EF (BD 2005 _ _ rfl rfl) (EF (BD 2006 _ _ rfl rfl) ?_)))))))
   refine BR h fun v6 a6 h => AC [2007] (MS N p0 v1.1 p1 v6 a6) dZ rfl (qm rfl (qx rfl (qx rfl (qa rfl (qa rfl (Ae (Ar Ac rfl (qm rfl (qe rfl ?_)))))))))
   obtain rfl := sj h
   refine Aj (sm [] [(4, bD v6.2)] [] rfl rfl) (Aw ?_)
   exact ⟨⟨[_], ⟨.tmp _ _ rfl, tv⟩, rfl⟩, tv⟩
theorem MU (N : Nat) (p0 : Ad) (r : Bool) (h : GQ N p0 = some r) : Ax Tryz.prog 33 [.e (.agg (Ak p0))] [] (bD r) := by
 unfold GQ at h
 refine Am (n := 15) (rs := [.tmp 2]) Tryz.func33 rfl rfl rfl (A0 rfl) (A0 rfl) rfl fun w0 S0 => ?_
 refine Ar Ac rfl (qb rfl (qa rfl (Ae (Ar Ac rfl (qL Dv Ci rfl ?_)))))
 refine BR h fun v1 a1 h => AC [2001] (HB N p0 v1 a1) aV rfl (qe rfl ?_)
 refine AR h (fun v2 => mk [(2, bD v2)] []) (fun j2 h => ?_) (fun v2 h => ?_)
 ·refine Ai Ac rfl (qm rfl (D4 AP rfl (KT rfl (qm rfl ?_))))
  refine E7 9 h rfl (fun h => ?_) fun h => ?_
  ·refine qL Dv Ci rfl (qm rfl (EF (BD 2001 _ _ rfl rfl) ?_))
   refine BR h fun v4 a4 h => AC [2002, 2003, 2004] (Kh N p0 v1 v4 a4) dq rfl ?_
   refine BR h fun v5 a5 h => Fp [] [2002, 2003, 2004] (MT N v4 60 v5 a5) d4 Dr rfl (qp rfl (qe rfl ?_))
   exact sn [] h
  ·refine qn rfl (qn rfl (qn rfl (qn rfl (qp rfl (qe rfl ?_)))))
   exact sn [] h
 ·obtain rfl := sj h
  refine Aj (sm [] [(2, bD v2)] [] rfl rfl) (Aw ?_)
  exact ⟨⟨[_], ⟨.tmp _ _ rfl, tv⟩, rfl⟩, tv⟩
theorem OL (N : Nat) (p0 : B1) (r : Ad × Bool) (h : GP N p0 = some r) : Ax Tryz.prog 10 [.e (.agg (Dy p0))] [(1, r.1.fc.map Av), (1, r.1.fh.map Av), (1, r.1.fm.map Av), (6, r.1.fb.map AL)] (.tup [.agg [.own 0, .own 1, .own 2, .own 3], .one (.pure (.val (.bool r.2)))]) := by
 unfold GP at h
 refine Am (n := 23) (rs := [.cell 2 29, .tmp 3]) Tryz.func10 rfl rfl rfl (A0 rfl) (A0 rfl) rfl fun w0 S0 => ?_
 refine Ar Ac rfl (qb rfl (qz KC rfl (qa rfl (Ae (Ar Ac rfl (qL cw de rfl ?_))))))
 refine BR h fun v1 a1 h => AC [2001, 2002, 2003, 2004] (O0 N p0 v1 a1) d1 rfl (qm rfl (qx rfl (qx rfl (qz KC rfl (qs Ci rfl (qe rfl ?_))))))
 refine AR h (fun v2 => mk [(2, oD (.ptr 2 0)), (3, bD v2)] [(2, .box [.own 2005, .own 2006, .own 2007, .own 2008]), (2005, .vec 1 (v1.1.fc.map Av)), (2006, .vec 1 (v1.1.fh.map Av)), (2007, .vec 1 (v1.1.fm.map Av)), (2008, .vec 6 (v1.1.fb.map AL))]) (fun j2 h => ?_) (fun v2 h => ?_)
 ·refine Ai Ac rfl (qL Dv Ci rfl (qm rfl (qm rfl ?_)))
  refine E7 13 h rfl (fun h => ?_) fun h => ?_
  ·refine qf BF rfl (ql Bi rfl (D4 AE rfl (KT rfl (qp rfl (qm rfl ?_)))))
   refine E7 19 h rfl (fun h => ?_) fun h => ?_
   ·refine qL Dv Ci rfl ?_
    refine BR h fun v5 a5 h => Fp [] [2001, 2002, 2003, 2004] (MU N v1.1 v5 a5) eO Dr rfl (qp rfl (qs Ci rfl (qa rfl (AI (by kernel_rfl) ?_))))
    exact sn [(2005, 2001), (2006, 2002), (2007, 2003), (2008, 2004)] h
   ·refine qn rfl (qn rfl (qp rfl (qs Ci rfl (qa rfl (AI (by kernel_rfl) ?_)))))
    exact sn [(2005, 2001), (2006, 2002), (2007, 2003), (2008, 2004)] h
  ·refine qn rfl (qn rfl (qn rfl (qn rfl (qp rfl (qm rfl (qn rfl (qn rfl (qp rfl (qs Ci rfl (qa rfl (AI (by kernel_rfl) ?_)))))))))))
   exact sn [(2005, 2001), (2006, 2002), (2007, 2003), (2008, 2004)] h
 ·obtain rfl := sj h
  refine Aj (sm [(1000, 2005), (1001, 2006), (1002, 2007), (1003, 2008)] [(2, oD (.ptr 2 0)), (3, bD v2)] [(2, .box [.own 1000, .own 1001, .own 1002, .own 1003]), (1000, .vec 1 (v1.1.fc.map Av)), (1001, .vec 1 (v1.1.fh.map Av)), (1002, .vec 1 (v1.1.fm.map Av)), (1003, .vec 6 (v1.1.fb.map AL))] rfl rfl) (Aw ?_)
  exact ⟨⟨[_, _], ⟨.cellN _ _ _ _ _ _ _ rfl rfl Dv Ci rfl rfl (J8 rfl), ⟨.tmp _ _ rfl, tv⟩⟩, rfl⟩, ⟨rfl, rfl, rfl, rfl, tv⟩⟩
theorem Gx (N : Nat) (r : Ad) (h : Ep N = some r) : Ax Tryz.prog 34 [] [(1, r.fc.map Av), (1, r.fh.map Av), (1, r.fm.map Av), (6, r.fb.map AL)] (.e (.agg [.own 0, .own 1, .own 2, .own 3])) := by
 unfold Ep at h
 refine Am (n := 12) (rs := [.cell 0 29]) Tryz.func34 rfl rfl rfl (A0 rfl) (A0 rfl) rfl fun w0 S0 => ?_
 refine Ar Ac rfl (qz KC rfl (Ae (Ar Ac rfl (E5 E6 Nh Wl rfl (E5 E6 Nh Wl rfl (EF (BD 2 _ _ rfl rfl) (EF (BD 3 _ _ rfl rfl) (E5 D7 IS SX rfl (Bo JX dh rfl (qz JX rfl (qs Dx rfl (Ae (Ar Ac rfl (E5 AE Et Lt rfl (E5 AE Et Lt rfl (E5 AE Et Lt rfl (qL HQ Dx rfl (EF (BD 4 _ _ rfl rfl) (E5 C9 Dx JX rfl (Bo KC TI rfl (qs Ci rfl (Ae ?_))))))))))))))))))))))
 obtain rfl := sj h
 refine Aj (sm [(1000, 6), (1001, 7), (1002, 8), (1003, 10)] [(0, oD (.ptr 0 0))] [(0, .box [.own 1000, .own 1001, .own 1002, .own 1003]), (1000, .vec 1 ((([2, 2] : List Int)).map Av)), (1001, .vec 1 ((([0, 0] : List Int)).map Av)), (1002, .vec 1 ((([1, 1] : List Int)).map Av)), (1003, .vec 6 ((([(Aq.mk 1 0 1 false (([([true, false] : List Bool), ([false, true] : List Bool)] : List (List Bool))) (([] : List (List Bool))))] : List Aq)).map AL))] rfl rfl) (Aw ?_)
 exact ⟨⟨[_], ⟨.cellN _ _ _ _ _ _ _ rfl rfl Dv Ci rfl rfl (J8 rfl), tv⟩, rfl⟩, ⟨rfl, rfl, rfl, rfl, tv⟩⟩
theorem I3 (N : Nat) (p0 : Int) (p1 : Int) (r : Bool) (h : Fk N p0 p1 = some r) : Ax Tryz.prog 76 [iD p0, iD p1] [] (bD r) := by
 unfold Fk at h
 refine Am (n := 12) (rs := [.tmp 4]) Tryz.func76 rfl rfl rfl (A0 rfl) (A0 rfl) rfl fun w0 S0 => ?_
 refine Ar Ac rfl (qe rfl ?_)
 refine AR h (fun v1 => mk [(4, bD v1)] []) (fun j1 h => ?_) (fun v1 h => ?_)
 ·refine Ai Ac rfl (qm rfl (Ej rfl (qm rfl ?_)))
  refine E7 7 h rfl (fun h => ?_) fun h => ?_
  ·refine qm rfl (qm rfl (AY rfl (qp rfl (qe rfl ?_))))
   exact sn [] h
  ·refine qn rfl (qn rfl (qn rfl (qp rfl (qe rfl ?_))))
   exact sn [] h
 ·obtain rfl := sj h
  refine Aj (sm [] [(4, bD v1)] [] rfl rfl) (Aw ?_)
  exact ⟨⟨[_], ⟨.tmp _ _ rfl, tv⟩, rfl⟩, tv⟩
theorem SH (N : Nat) (p0 : Int) (p1 : Bool) (r : Bool) (h : It N p0 p1 = some r) : Ax Tryz.prog 110 [iD p0, bD p1] [] (bD r) := by
 unfold It at h
 refine Am (n := 23) (rs := [.tmp 4]) Tryz.func110 rfl rfl rfl (A0 rfl) (A0 rfl) rfl fun w0 S0 => ?_
 refine Ar Ac rfl (qe rfl ?_)
 refine AR h (fun v1 => mk [(4, bD v1)] []) (fun j1 h => ?_) (fun v1 h => ?_)
 ·refine Ai Ac rfl (qm rfl (B9 rfl (qm rfl ?_)))
  refine E7 7 h rfl (fun h => ?_) fun h => ?_
  ·refine qn rfl (qn rfl (qp rfl (qm rfl (qn rfl (qn rfl (qn rfl (qu rfl (qu rfl (qn rfl (qn rfl (qu rfl (qu rfl (qn rfl (qp rfl (qe rfl ?_)))))))))))))))
   exact sn [] h
  ·refine qm rfl (B9 rfl (qp rfl (qm rfl ?_)))
   refine E7 11 h rfl (fun h => ?_) fun h => ?_
   ·refine qn rfl (qn rfl (qn rfl (qu rfl (qu rfl (qn rfl (qn rfl (qu rfl (qu rfl (qn rfl (qp rfl (qe rfl ?_)))))))))))
    exact sn [] h
   ·refine qm rfl (B9 rfl (qm rfl ?_))
    refine E7 14 h rfl (fun h => ?_) fun h => ?_
    ·refine qn rfl (qn rfl (qp rfl (qm rfl (qm rfl (CO rfl (qp rfl (qp rfl (qe rfl ?_))))))))
     exact sn [] h
    ·refine qm rfl (B9 rfl (qp rfl (qm rfl ?_)))
     refine E7 18 h rfl (fun h => ?_) fun h => ?_
     ·refine qm rfl (CO rfl (qp rfl (qp rfl (qe rfl ?_))))
      exact sn [] h
     ·refine qn rfl (qn rfl (qp rfl (qp rfl (qe rfl ?_))))
      exact sn [] h
 ·obtain rfl := sj h
  refine Aj (sm [] [(4, bD v1)] [] rfl rfl) (Aw ?_)
  exact ⟨⟨[_], ⟨.tmp _ _ rfl, tv⟩, rfl⟩, tv⟩
theorem OM (N : Nat) (p0 : List Bool) (p1 : Int) (r : Bool) (h : Fc N p0 p1 = some r) : Ax Tryz.prog 141 [pD (.sl (p0.map eB)), oD (.rop [.val (.int .i64 p1)])] [] (bD r) := by
 unfold Fc at h
 refine Am (n := 8) (rs := [.tmp 3]) Tryz.func141 rfl rfl rfl (A0 rfl) (A0 rfl) rfl fun w0 S0 => ?_
 refine Ar Ac rfl (qa rfl (Ae (Ar Ac rfl (qm rfl (AX E6 rfl (qk CV rfl (CF rfl (qe rfl ?_))))))))
 obtain rfl := sj h
 refine Aj (sm [] [(3, bD (((p0.length : Int) != p1)))] [] rfl rfl) (Aw ?_)
 exact ⟨⟨[_], ⟨.tmp _ _ rfl, tv⟩, rfl⟩, tv⟩
theorem JJ (N : Nat) (p0 : List (List Bool)) (p1 : (List Bool) → Option Bool) (r : Int) (h : ED N p0 p1 = some r) : Ax Tryz.prog 154 [pD (.sl (p0.map (FX eB))), oD (.clo (CC (Px false (FX eB)) tB p1))] [] (iD r) := by
 unfold ED at h
 refine Am (n := 19) (rs := [.tmp 4]) Tryz.func154 rfl rfl rfl (A0 rfl) (A0 rfl) rfl fun w0 S0 => ?_
 refine Ar Ac rfl (qa rfl (Ae (Ao (Ar Ac rfl (qm rfl (AX D7 rfl (qm rfl (Ae ?_))))))))
 refine AA (L := BK N p0 p1) h (fun v1 => mk [(0, pD (.sl (p0.map (FX eB)))), (1, oD (.clo (CC (Px false (FX eB)) tB p1))), (7, iD ((p0.length : Int))), (8, iD v1)] []) (fun v2 => mk [] []) (fun _ _ => rfl) (sm [] _ _ rfl rfl) (fun j1 n1 v1 h => ?_) (fun v2 s h hs => ?_)
 ·unfold BK at h
  refine Ar Ac rfl (AY rfl (Ae (Ao ?_)))
  refine Ba h rfl (fun h => ?_) fun h => ?_
  ·refine An (Ao (AJ (Ar Ac rfl (qm rfl (qa rfl (Ae (Ar Ac rfl (qm rfl (qm rfl (qm rfl ?_))))))))))
   refine Bb h fun v4 a4 b4 h => qi D7 IS a4 (Af b4) rfl (qk Me rfl ?_)
   refine BR h fun v5 a5 h => Ge (ds0 := [_]) (ar := (Px false (FX eB)) v4) (.p rfl) rfl rfl ⟨rfl, tv⟩ rfl rfl rfl (Gf (NJ _ _ (dJ dS)) a5) ?_
   refine Ae ?_
   refine Ba h rfl (fun h => ?_) fun h => ?_
   ·refine Ar Ac rfl (qm rfl (qe rfl ?_))
    obtain rfl := sj h
    refine Aj (sm [] [(4, iD v1)] [] rfl rfl) (Aw ?_)
    exact ⟨⟨[_], ⟨.tmp _ _ rfl, tv⟩, rfl⟩, tv⟩
   ·refine An (Ai Ac rfl (AV rfl (qm rfl (Ae ?_))))
    exact sn [] h
  ·refine AT ?_
   exact sn [] h
 ·refine Aj hs (Ar Ac rfl (qe rfl ?_))
  obtain rfl := sj h
  refine Aj (sm [] [(4, iD ((-1)))] [] rfl rfl) (Aw ?_)
  exact ⟨⟨[_], ⟨.tmp _ _ rfl, tv⟩, rfl⟩, tv⟩
theorem Jd (N : Nat) (p0 : List (List Bool)) (p1 : (List Bool) → Option Bool) (r : Bool) (h : D1 N p0 p1 = some r) : Ax Tryz.prog 140 [pD (.sl (p0.map (FX eB))), oD (.clo (CC (Px false (FX eB)) tB p1))] [] (bD r) := by
 unfold D1 at h
 refine Am (n := 9) (rs := [.tmp 4]) Tryz.func140 rfl rfl rfl (A0 rfl) (A0 rfl) rfl fun w0 S0 => ?_
 refine Ar Ac rfl (qa rfl (Ae (Ar Ac rfl (qm rfl (qm rfl ?_)))))
 refine BR h fun v1 a1 h => AC [] (JJ N p0 p1 v1 a1) bR rfl (Ej rfl (qe rfl ?_))
 obtain rfl := sj h
 refine Aj (sm [] [(4, bD ((decide (0 ≤ v1))))] [] rfl rfl) (Aw ?_)
 exact ⟨⟨[_], ⟨.tmp _ _ rfl, tv⟩, rfl⟩, tv⟩
theorem Mu (N : Nat) (p0 : List (List Bool)) (p1 : Int) (p2 : Int) (r : Bool) (h : GE N p0 p1 p2 = some r) : Ax Tryz.prog 111 [pD (.sl (p0.map (FX eB))), iD p1, iD p2] [] (bD r) := by
 unfold GE at h
 refine Am (n := 17) (rs := [.tmp 6]) Tryz.func111 rfl rfl rfl (A0 rfl) (A0 rfl) rfl fun w0 S0 => ?_
 refine Ar Ac rfl (qb rfl (qe rfl ?_))
 refine AR h (fun v1 => mk [(6, bD v1)] []) (fun j1 h => ?_) (fun v1 h => ?_)
 ·refine Ai Ac rfl (qm rfl (AX D7 rfl (qm rfl (B9 rfl (qm rfl ?_)))))
  refine E7 11 h rfl (fun h => ?_) fun h => ?_
  ·refine qm rfl (EF (NN 5 [.val (.int .i64 p2)] rfl rfl) ?_)
   refine Nl (capD := [_]) (CC (Px false (FX eB)) tB ((fun (x : List Bool) => Fc N x p2))) (.g rfl rfl) cW rfl ⟨rfl, tv⟩ rfl (fun ar t ht => by obtain ⟨x, r, rfl, hq, rfl⟩ := Lm ht; exact OM N x p2 r hq) ?_
   refine BR h fun v3 a3 h => AC [] (Jd N p0 ((fun (x : List Bool) => Fc N x p2)) v3 a3) cS rfl (CO rfl (qp rfl (qe rfl ?_)))
   exact sn [] h
  ·refine qn rfl (qn rfl (qn rfl (qn rfl (qp rfl (qe rfl ?_)))))
   exact sn [] h
 ·obtain rfl := sj h
  refine Aj (sm [] [(6, bD v1)] [] rfl rfl) (Aw ?_)
  exact ⟨⟨[_], ⟨.tmp _ _ rfl, tv⟩, rfl⟩, tv⟩
theorem Q6 (N : Nat) (p0 : Ad) (p1 : Aq) (r : Int) (h : HU N p0 p1 = some r) : Ax Tryz.prog 77 [.e (.agg (Ak p0)), .e (.agg (Bt p1))] [] (iD r) := by
 unfold HU at h
 refine Am (n := 87) (rs := [.tmp 4]) Tryz.func77 rfl rfl rfl (A0 rfl) (A0 rfl) rfl fun w0 S0 => ?_
 refine Ar Ac rfl (qb rfl (qb rfl (qa rfl (Ae (Ao (Ar Ac rfl (qf HJ rfl (ql CV rfl (qf KP rfl (ql TE rfl ?_))))))))))
 refine BR h fun v1 a1 h => AC [] (SH N p1.ff p1.fp v1 a1) cF rfl (CO rfl (Ae ?_))
 refine Ba h rfl (fun h => ?_) fun h => ?_
 ·refine Ar Ac rfl (qe rfl ?_)
  obtain rfl := sj h
  refine Aj (sm [] [(4, iD 1)] [] rfl rfl) (Aw ?_)
  exact ⟨⟨[_], ⟨.tmp _ _ rfl, tv⟩, rfl⟩, tv⟩
 ·refine An (Ao ?_)
  refine AR h (fun v3 => mk [(2, oD (.ptr 2 0)), (3, oD (.ptr 3 0)), (29, bD v3)] [(2, .box (Ak p0)), (3, .box (Bt p1))]) (fun j3 h => ?_) (fun v3 h => ?_)
  ·refine Ai Ac rfl (qf En rfl (ql CV rfl (qf BF rfl (ql Bi rfl (AX AE rfl ?_)))))
   refine BR h fun v4 a4 h => AC [] (I3 N p1.fg ((p0.fc.length : Int)) v4 a4) YZ rfl (CO rfl (qm rfl ?_))
   refine E7 21 h rfl (fun h => ?_) fun h => ?_
   ·refine qn rfl (qn rfl (qn rfl (qn rfl (qn rfl (qn rfl (qn rfl (qp rfl (Ae ?_))))))))
    exact sn [] h
   ·refine qf JT rfl (ql CV rfl (qf BF rfl (ql Bi rfl (AX AE rfl ?_))))
    refine BR h fun v6 a6 h => AC [] (I3 N p1.fk ((p0.fc.length : Int)) v6 a6) YZ rfl (CO rfl (qp rfl (Ae ?_)))
    exact sn [] h
  ·refine Ba h rfl (fun h => ?_) fun h => ?_
   ·refine Ar Ac rfl (qe rfl ?_)
    obtain rfl := sj h
    refine Aj (sm [] [(4, iD 4)] [] rfl rfl) (Aw ?_)
    exact ⟨⟨[_], ⟨.tmp _ _ rfl, tv⟩, rfl⟩, tv⟩
   ·refine An (Ar Ac rfl (qf BF rfl (ql Bi rfl (qf En rfl (ql CV rfl ?_)))))
    refine Bb h fun v8 a8 b8 h => qi AE Et a8 (Af b8) rfl (qk CV rfl (qa rfl (Ae (Ar Ac rfl (qf HJ rfl (ql CV rfl (B9 rfl (qa rfl (Ae (Ao ?_))))))))))
    refine AR h (fun v9 => mk [(3, oD (.ptr 3 0)), (70, bD v9)] [(3, .box (Bt p1))]) (fun j9 h => ?_) (fun v9 h => ?_)
    ·refine Ai Ac rfl (qf Fq rfl (ql HL rfl (qm rfl (qf BF rfl (ql Bi rfl (qf JT rfl (ql CV rfl ?_)))))))
     refine Bb h fun v10 a10 b10 h => qi AE Et a10 (Af b10) rfl (qk CV rfl ?_)
     refine BR h fun v11 a11 h => AC [] (Mu N p1.fi v8 v10 v11 a11) ZZ rfl (CO rfl (qm rfl ?_))
     refine E7 50 h rfl (fun h => ?_) fun h => ?_
     ·refine qn rfl (qn rfl (qu rfl (qu rfl (qu rfl (qu rfl (qu rfl (qu rfl (qn rfl (qp rfl (qm rfl (qn rfl (qn rfl (qn rfl (qu rfl (qu rfl (qu rfl (qu rfl (qn rfl (qp rfl (AI (by kernel_rfl) ?_))))))))))))))))))))
      exact sn [] h
     ·refine qm rfl (qm rfl ?_)
      refine E7 52 h rfl (fun h => ?_) fun h => ?_
      ·refine qf Fo rfl (ql HL rfl (qm rfl (qm rfl ?_)))
       refine BR h fun v14 a14 h => AC [] (Mu N p1.fo v8 v8 v14 a14) ZZ rfl (CO rfl (qp rfl (qp rfl (qm rfl ?_))))
       refine E7 61 h rfl (fun h => ?_) fun h => ?_
       ·refine qn rfl (qn rfl (qn rfl (qu rfl (qu rfl (qu rfl (qu rfl (qn rfl (qp rfl (AI (by kernel_rfl) ?_)))))))))
        exact sn [] h
       ·refine qm rfl (CO rfl (qm rfl ?_))
        refine E7 64 h rfl (fun h => ?_) fun h => ?_
        ·refine qf Fo rfl (ql HL rfl (AX D7 rfl (GB rfl (qp rfl (qp rfl (AI (by kernel_rfl) ?_))))))
         exact sn [] h
        ·refine qn rfl (qn rfl (qn rfl (qn rfl (qp rfl (qp rfl (AI (by kernel_rfl) ?_))))))
         exact sn [] h
      ·refine qn rfl (qn rfl (qn rfl (qn rfl (qn rfl (qn rfl (qp rfl (qp rfl (qm rfl (qm rfl (CO rfl (qm rfl ?_)))))))))))
       refine E7 64 h rfl (fun h => ?_) fun h => ?_
       ·refine qf Fo rfl (ql HL rfl (AX D7 rfl (GB rfl (qp rfl (qp rfl (AI (by kernel_rfl) ?_))))))
        exact sn [] h
       ·refine qn rfl (qn rfl (qn rfl (qn rfl (qp rfl (qp rfl (AI (by kernel_rfl) ?_))))))
        exact sn [] h
    ·refine Ba h rfl (fun h => ?_) fun h => ?_
     ·refine Ar Ac rfl (qe rfl ?_)
      obtain rfl := sj h
      refine Aj (sm [] [(4, iD 6)] [] rfl rfl) (Aw ?_)
      exact ⟨⟨[_], ⟨.tmp _ _ rfl, tv⟩, rfl⟩, tv⟩
     ·refine An (Ao (Ar Ac rfl (qf Fo rfl (ql HL rfl (AX D7 rfl (qm rfl (Ae ?_)))))))
      refine AA (L := Eg N p1) h (fun v19 => mk [(3, oD (.ptr 3 0)), (73, iD ((p1.fo.length : Int))), (74, iD v19)] [(3, .box (Bt p1))]) (fun v20 => mk [] []) (fun _ _ => rfl) (sm [] _ _ rfl rfl) (fun j19 n19 v19 h => ?_) (fun v20 s h hs => ?_)
      ·unfold Eg at h
       refine Ar Ac rfl (AY rfl (Ae (Ao ?_)))
       refine Ba h rfl (fun h => ?_) fun h => ?_
       ·refine An (Ao (AJ (Ar Ac rfl (qm rfl (qa rfl (Ae (Ar Ac rfl (qf Fo rfl (ql HL rfl (qm rfl ?_))))))))))
        refine Bb h fun v22 a22 b22 h => qi D7 IS a22 (Af b22) rfl (qk Me rfl (qm rfl ?_))
        refine Bb h fun v23 a23 b23 h => qi E6 Nh a23 (Af b23) rfl (qk TE rfl (CO rfl (Ae ?_)))
        refine Ba h rfl (fun h => ?_) fun h => ?_
        ·refine Ar Ac rfl (qe rfl ?_)
         obtain rfl := sj h
         refine Aj (sm [] [(4, iD 1)] [] rfl rfl) (Aw ?_)
         exact ⟨⟨[_], ⟨.tmp _ _ rfl, tv⟩, rfl⟩, tv⟩
        ·refine An (Ai Ac rfl (AV rfl (qm rfl (Ae ?_))))
         exact sn [] h
       ·refine AT ?_
        exact sn [] h
      ·refine Aj hs (Ar Ac rfl (qe rfl ?_))
       obtain rfl := sj h
       refine Aj (sm [] [(4, iD 0)] [] rfl rfl) (Aw ?_)
       exact ⟨⟨[_], ⟨.tmp _ _ rfl, tv⟩, rfl⟩, tv⟩
theorem EV (N : Nat) (p0 : Ad) (r : Int) (h : BV N p0 = some r) : Ax Tryz.prog 48 [.e (.agg (Ak p0))] [] (iD r) := by
 unfold BV at h
 refine Am (n := 81) (rs := [.tmp 2]) Tryz.func48 rfl rfl rfl (A0 rfl) (A0 rfl) rfl fun w0 S0 => ?_
 refine Ar Ac rfl (qb rfl (qa rfl (Ae (Ar Ac rfl (qf BF rfl (ql Bi rfl (AX AE rfl (qa rfl (Ae (Ao ?_))))))))))
 refine AR h (fun v1 => mk [(1, oD (.ptr 1 0)), (3, iD ((p0.fc.length : Int))), (19, bD v1)] [(1, .box (Ak p0))]) (fun j1 h => ?_) (fun v1 h => ?_)
 ·refine Ai Ac rfl (qm rfl (GB rfl (qm rfl ?_)))
  refine E7 14 h rfl (fun h => ?_) fun h => ?_
  ·refine qn rfl (qn rfl (qn rfl (qn rfl (qp rfl (Ae ?_)))))
   exact sn [] h
  ·refine qf BJ rfl (ql GN rfl (AX C9 rfl (GB rfl (qp rfl (Ae ?_)))))
   exact sn [] h
 ·refine Ba h rfl (fun h => ?_) fun h => ?_
  ·refine Ar Ac rfl (qe rfl ?_)
   obtain rfl := sj h
   refine Aj (sm [] [(2, iD 3)] [] rfl rfl) (Aw ?_)
   exact ⟨⟨[_], ⟨.tmp _ _ rfl, tv⟩, rfl⟩, tv⟩
  ·refine An (Ao ?_)
   refine AR h (fun v4 => mk [(1, oD (.ptr 1 0)), (31, bD v4)] [(1, .box (Ak p0))]) (fun j4 h => ?_) (fun v4 h => ?_)
   ·refine Ai Ac rfl (qf HD rfl (ql Bi rfl (AX AE rfl (qm rfl (CF rfl (qm rfl ?_))))))
    refine E7 25 h rfl (fun h => ?_) fun h => ?_
    ·refine qn rfl (qn rfl (qn rfl (qn rfl (qn rfl (qp rfl (Ae ?_))))))
     exact sn [] h
    ·refine qf Jr rfl (ql Bi rfl (AX AE rfl (qm rfl (CF rfl (qp rfl (Ae ?_))))))
     exact sn [] h
   ·refine Ba h rfl (fun h => ?_) fun h => ?_
    ·refine Ar Ac rfl (qe rfl ?_)
     obtain rfl := sj h
     refine Aj (sm [] [(2, iD 6)] [] rfl rfl) (Aw ?_)
     exact ⟨⟨[_], ⟨.tmp _ _ rfl, tv⟩, rfl⟩, tv⟩
    ·refine An (Ao (Ar Ac rfl (qf BF rfl (ql Bi rfl (AX AE rfl (qm rfl (Ae ?_)))))))
     refine AA (L := CD N p0) h (fun v7 => mk [(1, oD (.ptr 1 0)), (33, pD (.sl (p0.fc.map Av))), (34, iD ((p0.fc.length : Int))), (35, iD v7)] [(1, .box (Ak p0))]) (fun v8 => mk [(1, oD (.ptr 1 0))] [(1, .box (Ak p0))]) (fun _ _ => rfl) (sm [] _ _ rfl rfl) (fun j7 n7 v7 h => ?_) (fun v8 s h hs => ?_)
     ·unfold CD at h
      refine Ar Ac rfl (AY rfl (Ae (Ao ?_)))
      refine Ba h rfl (fun h => ?_) fun h => ?_
      ·refine An (Ao (AJ (Ar Ac rfl (qm rfl ?_))))
       refine Bb h fun v10 a10 b10 h => qi AE Et a10 (Af b10) rfl (qk CV rfl (qa rfl (qe rfl ?_)))
       refine AR h (fun v11 => mk [(1, oD (.ptr 1 0)), (33, pD (.sl (p0.fc.map Av))), (34, iD ((p0.fc.length : Int))), (35, iD v7), (65, bD v11)] [(1, .box (Ak p0))]) (fun j11 h => ?_) (fun v11 h => ?_)
       ·refine Ai Ac rfl (qm rfl (AY rfl (qm rfl ?_)))
        refine E7 42 h rfl (fun h => ?_) fun h => ?_
        ·refine qn rfl (qn rfl (qp rfl (qm rfl (qn rfl (qn rfl (qn rfl (qn rfl (qn rfl (qn rfl (qn rfl (qn rfl (qp rfl (qm rfl (qn rfl (qn rfl (qn rfl (qn rfl (qn rfl (qn rfl (qn rfl (qn rfl (qp rfl (Ae ?_)))))))))))))))))))))))
         exact sn [] h
        ·refine qm rfl (GB rfl (qp rfl (qm rfl ?_)))
         refine E7 46 h rfl (fun h => ?_) fun h => ?_
         ·refine qn rfl (qn rfl (qn rfl (qn rfl (qn rfl (qn rfl (qn rfl (qn rfl (qp rfl (qm rfl (qn rfl (qn rfl (qn rfl (qn rfl (qn rfl (qn rfl (qn rfl (qn rfl (qp rfl (Ae ?_)))))))))))))))))))
          exact sn [] h
         ·refine qf HD rfl (ql Bi rfl (qm rfl ?_))
          refine Bb h fun v14 a14 b14 h => qi AE Et a14 (Af b14) rfl (qk CV rfl (qm rfl ?_))
          refine BR h fun v15 a15 h => AC [] (I3 N v14 v10 v15 a15) YZ rfl (CO rfl (qp rfl (qm rfl ?_)))
          refine E7 56 h rfl (fun h => ?_) fun h => ?_
          ·refine qn rfl (qn rfl (qn rfl (qn rfl (qn rfl (qn rfl (qn rfl (qn rfl (qp rfl (Ae ?_)))))))))
           exact sn [] h
          ·refine qf Jr rfl (ql Bi rfl (qm rfl ?_))
           refine Bb h fun v17 a17 b17 h => qi AE Et a17 (Af b17) rfl (qk CV rfl (qm rfl ?_))
           refine BR h fun v18 a18 h => AC [] (I3 N v17 v10 v18 a18) YZ rfl (CO rfl (qp rfl (Ae ?_)))
           exact sn [] h
       ·refine Ba h rfl (fun h => ?_) fun h => ?_
        ·refine Ar Ac rfl (qe rfl ?_)
         obtain rfl := sj h
         refine Aj (sm [] [(2, iD 7)] [] rfl rfl) (Aw ?_)
         exact ⟨⟨[_], ⟨.tmp _ _ rfl, tv⟩, rfl⟩, tv⟩
        ·refine An (Ai Ac rfl (AV rfl (qm rfl (Ae ?_))))
         exact sn [] h
      ·refine AT ?_
       exact sn [] h
     ·refine Aj hs (Ao (Ar Ac rfl (qf BJ rfl (ql GN rfl (AX C9 rfl (qm rfl (Ae ?_)))))))
      refine AA (L := Ck N p0) h (fun v20 => mk [(1, oD (.ptr 1 0)), (68, pD (.sl (p0.fb.map AL))), (69, iD ((p0.fb.length : Int))), (70, iD v20)] [(1, .box (Ak p0))]) (fun v21 => mk [] []) (fun _ _ => rfl) (sm [] _ _ rfl rfl) (fun j20 n20 v20 h => ?_) (fun v21 s h hs => ?_)
      ·unfold Ck at h
       refine Ar Ac rfl (AY rfl (Ae (Ao ?_)))
       refine Ba h rfl (fun h => ?_) fun h => ?_
       ·refine An (Ao (AJ (Ar Ac rfl ?_)))
        refine Bb h fun v23 a23 b23 h => qi C9 Dx a23 (Af b23) rfl (qK HQ Dx rfl (qz JX rfl (qs Dx rfl (Ae (Ar Ac rfl (qL Dv Ci rfl (qL HQ Dx rfl ?_)))))))
        refine BR h fun v24 a24 h => AC [] (Q6 N p0 v23 v24 a24) d3 rfl (qa rfl (Ae (Ar Ac rfl (qm rfl (CF rfl (Ae ?_))))))
        refine Ba h rfl (fun h => ?_) fun h => ?_
        ·refine Ar Ac rfl (qm rfl (qe rfl ?_))
         obtain rfl := sj h
         refine Aj (sm [] [(2, iD v24)] [] rfl rfl) (Aw ?_)
         exact ⟨⟨[_], ⟨.tmp _ _ rfl, tv⟩, rfl⟩, tv⟩
        ·refine An (Ai Ac rfl (AV rfl (qm rfl (Ae ?_))))
         exact sn [] h
       ·refine AT ?_
        exact sn [] h
      ·refine Aj hs (Ar Ac rfl (qe rfl ?_))
       obtain rfl := sj h
       refine Aj (sm [] [(2, iD 0)] [] rfl rfl) (Aw ?_)
       exact ⟨⟨[_], ⟨.tmp _ _ rfl, tv⟩, rfl⟩, tv⟩
theorem IY (N : Nat) (p0 : Ad) (r : (List Aa)) (h : EN N p0 = some r) : Ax Tryz.prog 41 [.e (.agg (Ak p0))] [(3, r.map Ab)] (oD (.own 0)) := by
 unfold EN at h
 refine Am (n := 46) (rs := [.tmp 2]) Tryz.func41 rfl rfl rfl (A0 rfl) (A0 rfl) rfl fun w0 S0 => ?_
 refine Ar Ac rfl (qb rfl (qa rfl (Ae (Ar Ac rfl (qa rfl (Ae (Ao (Ar Ac rfl (qf BJ rfl (ql GN rfl (AX C9 rfl (qm rfl (Ae ?_)))))))))))))
 refine AA (L := CN N p0) h (fun v1 => mk [(3, oD (.own 2001)), (11, pD (.sl (p0.fb.map AL))), (12, iD ((p0.fb.length : Int))), (13, iD v1.2)] [(2001, .vec 3 (v1.1.map Ab))]) (fun v2 => mk [(3, oD (.own 2002))] [(2002, .vec 3 (v2.map Ab))]) (fun _ _ => rfl) ((Bf 3 2008 3 rfl rfl rfl).trans (sm [(2001, 2008)] _ _ rfl rfl)) (fun j1 n1 v1 h => ?_) (fun v2 s h hs => ?_)
 ·unfold CN at h
  refine Ar Ac rfl (AY rfl (Ae (Ao ?_)))
  refine Ba h rfl (fun h => ?_) fun h => ?_
  ·refine An (Ao (AJ (Ar Ac rfl (qm rfl ?_))))
   refine Bb h fun v4 a4 b4 h => qi C9 Dx a4 (Af b4) rfl (qK HQ Dx rfl (qz JX rfl (qa rfl (qs Dx rfl (Ae (Ar Ac rfl (qf Fq rfl (ql HL rfl (AX D7 rfl (qm rfl (Ae ?_)))))))))))
   refine AA (L := Dh N v1 v4) h (fun v5 => mk [(3, oD (.own 2003)), (4, iD v1.2), (11, pD (.sl (p0.fb.map AL))), (12, iD ((p0.fb.length : Int))), (13, iD v1.2), (19, pD (.sl (v4.fi.map (FX eB)))), (20, iD ((v4.fi.length : Int))), (21, iD v5.2)] [(2003, .vec 3 (v5.1.map Ab))]) (fun v6 => mk [(3, oD (.own 2004)), (11, pD (.sl (p0.fb.map AL))), (12, iD ((p0.fb.length : Int))), (13, iD v1.2)] [(2004, .vec 3 (v6.map Ab))]) (fun _ _ => rfl) (sm [(2003, 2001)] _ _ rfl rfl) (fun j5 n5 v5 h => ?_) (fun v6 s h hs => ?_)
   ·unfold Dh at h
    refine Ar Ac rfl (AY rfl (Ae (Ao ?_)))
    refine Ba h rfl (fun h => ?_) fun h => ?_
    ·refine An (Ao (AJ (Ar Ac rfl (qm rfl ?_))))
     refine Bb h fun v8 a8 b8 h => qi D7 IS a8 (Af b8) rfl (qk Me rfl (qa rfl (qa rfl (Ae (Ar Ac rfl (qm rfl (AX E6 rfl (qm rfl (Ae ?_)))))))))
     refine AA (L := DY N v1 v5 v8) h (fun v9 => mk [(3, oD (.own 2005)), (4, iD v1.2), (6, iD v5.2), (11, pD (.sl (p0.fb.map AL))), (12, iD ((p0.fb.length : Int))), (13, iD v1.2), (19, pD (.sl (v4.fi.map (FX eB)))), (20, iD ((v4.fi.length : Int))), (21, iD v5.2), (26, pD (.sl (v8.map eB))), (27, iD ((v8.length : Int))), (28, iD v9.2)] [(2005, .vec 3 (v9.1.map Ab))]) (fun v10 => mk [(3, oD (.own 2006)), (4, iD v1.2), (11, pD (.sl (p0.fb.map AL))), (12, iD ((p0.fb.length : Int))), (13, iD v1.2), (19, pD (.sl (v4.fi.map (FX eB)))), (20, iD ((v4.fi.length : Int))), (21, iD v5.2)] [(2006, .vec 3 (v10.map Ab))]) (fun _ _ => rfl) (sm [(2005, 2003)] _ _ rfl rfl) (fun j9 n9 v9 h => ?_) (fun v10 s h hs => ?_)
     ·unfold DY at h
      refine Ar Ac rfl (AY rfl (Ae (Ao ?_)))
      refine Ba h rfl (fun h => ?_) fun h => ?_
      ·refine An ?_
       refine AR h (fun v12 => mk [(3, oD (.own 2007)), (4, iD v1.2), (6, iD v5.2), (11, pD (.sl (p0.fb.map AL))), (12, iD ((p0.fb.length : Int))), (13, iD v1.2), (19, pD (.sl (v4.fi.map (FX eB)))), (20, iD ((v4.fi.length : Int))), (21, iD v5.2), (26, pD (.sl (v8.map eB))), (27, iD ((v8.length : Int))), (28, iD v9.2)] [(2007, .vec 3 (v12.map Ab))]) (fun j12 h => ?_) (fun v12 h => ?_)
       ·refine AJ (Ar Ac rfl (qm rfl ?_))
        refine Bb h fun v13 a13 b13 h => qi E6 Nh a13 (Af b13) rfl (qk TE rfl (qa rfl (qa rfl (Ae (Ar Ac rfl (qm rfl (CO rfl (Ae ?_))))))))
        refine Ba h rfl (fun h => ?_) fun h => ?_
        ·refine Ai Ac rfl (qm rfl (qm rfl (qm rfl (qm rfl (Bo HA Rn rfl (E5 AP AO HA rfl ?_))))))
         refine GA h fun c15 h => Ew (f := Ab) AP AP AO NZ HA c15 rfl (qe rfl ?_)
         exact sn [(2007, 41)] h
        ·refine An ?_
         exact sn [(2007, 2005)] h
       ·refine Ai Ac rfl (AV rfl (qm rfl (Ae ?_)))
        exact sn [(2005, 2007)] h
      ·refine AT ?_
       exact sn [(2006, 2005)] h
     ·refine Aj hs (Ai Ac rfl (AV rfl (qm rfl (Ae ?_))))
      exact sn [(2003, 2006)] h
    ·refine AT ?_
     exact sn [(2004, 2003)] h
   ·refine Aj hs (Ai Ac rfl (AV rfl (qm rfl (Ae ?_))))
    exact sn [(2001, 2004)] h
  ·refine AT ?_
   exact sn [(2002, 2001)] h
 ·refine Aj hs (Ar Ac rfl (qm rfl (qe rfl ?_)))
  obtain rfl := sj h
  refine Aj (sm [(1000, 2002)] [(2, oD (.own 1000))] [(1000, .vec 3 (v2.map Ab))] rfl rfl) (Aw ?_)
  exact ⟨⟨[_], ⟨.tmp _ _ rfl, tv⟩, rfl⟩, ⟨rfl, tv⟩⟩
theorem KO (N : Nat) (p0 : Ad) (r : (List Aa) × Int) (h : FE N p0 = some r) : Ax Tryz.prog 21 [.e (.agg (Ak p0))] [(3, r.1.map Ab)] (.tup [.one (.own 0), .one (iC r.2)]) := by
 unfold FE at h
 refine Am (n := 12) (rs := [.tmp 2, .tmp 3]) Tryz.func21 rfl rfl rfl (A0 rfl) (A0 rfl) rfl fun w0 S0 => ?_
 refine Ar Ac rfl (qb rfl (qa rfl (qa rfl (Ae (Ao (Ar Ac rfl (qL Dv Ci rfl ?_)))))))
 refine BR h fun v1 a1 h => AC [] (EV N p0 v1 a1) WZ rfl (qa rfl (Ae (Ar Ac rfl (qm rfl (CF rfl (Ae ?_))))))
 refine Ba h rfl (fun h => ?_) fun h => ?_
 ·refine Ar Ac rfl (qm rfl (qa rfl (qe rfl ?_)))
  obtain rfl := sj h
  refine Aj ((Bf 2 2001 3 rfl rfl rfl).trans (sm [(1000, 2001)] [(2, oD (.own 1000)), (3, iD v1)] [(1000, .vec 3 ((([] : List Aa)).map Ab))] rfl rfl)) (Aw ?_)
  exact ⟨⟨[_, _], ⟨.tmp _ _ rfl, ⟨.tmp _ _ rfl, tv⟩⟩, rfl⟩, ⟨rfl, tv⟩⟩
 ·refine An (Ar Ac rfl (qL Dv Ci rfl ?_))
  refine BR h fun v3 a3 h => AC [2002] (IY N p0 v3 a3) aZ rfl (qa rfl (qe rfl ?_))
  obtain rfl := sj h
  refine Aj (sm [(1000, 2002)] [(2, oD (.own 1000)), (3, iD 0)] [(1000, .vec 3 (v3.map Ab))] rfl rfl) (Aw ?_)
  exact ⟨⟨[_, _], ⟨.tmp _ _ rfl, ⟨.tmp _ _ rfl, tv⟩⟩, rfl⟩, ⟨rfl, tv⟩⟩
open IntKind renaming wrap → wI
theorem OO (N : Nat) (rc : (List Aa) → Int → Option ((List (List Aa)))) (hrc : ∀ (p0 : List Aa) (p1 : Int) (r : (List (List Aa))), rc p0 p1 = some r → Ax Tryz.prog 51 [pD (.sl (p0.map Ab)), iD p1] [(1, r.map (FX Ab))] (oD (.own 0))) (p0 : List Aa) (p1 : Int) (r : (List (List Aa))) (h : HF N rc p0 p1 = some r) : Ax Tryz.prog 51 [pD (.sl (p0.map Ab)), iD p1] [(1, r.map (FX Ab))] (oD (.own 0)) := by
 unfold HF at h
 refine Am (n := 42) (rs := [.tmp 4]) Tryz.func51 rfl rfl rfl (A0 rfl) (A0 rfl) rfl fun w0 S0 => ?_
 refine Ar Ac rfl (qa rfl (Ae (Ao (Ar Ac rfl (qm rfl (B9 rfl (Ae ?_)))))))
 refine Ba h rfl (fun h => ?_) fun h => ?_
 ·refine Ar Ac rfl (E5 KH Uf Yz rfl (qe rfl ?_))
  obtain rfl := sj h
  refine Aj (sm [(1000, 12)] [(4, oD (.own 1000))] [(1000, .vec 1 ((([([] : List Aa)] : List (List Aa))).map (FX Ab)))] rfl rfl) (Aw ?_)
  exact ⟨⟨[_], ⟨.tmp _ _ rfl, tv⟩, rfl⟩, ⟨rfl, tv⟩⟩
 ·refine An (Ar Ac rfl (qa rfl (Ae (Ao (Ar Ac rfl (qm rfl (AX AP rfl (qm rfl (Ae ?_)))))))))
  refine AA (L := Ec N p0 p1 rc) h (fun v2 => mk [(0, pD (.sl (p0.map Ab))), (1, iD p1), (5, oD (.own 2001)), (13, pD (.sl (p0.map Ab))), (14, iD ((p0.length : Int))), (15, iD v2.2)] [(2001, .vec 1 (v2.1.map (FX Ab)))]) (fun v3 => mk [(5, oD (.own 2002))] [(2002, .vec 1 (v3.map (FX Ab)))]) (fun _ _ => rfl) ((Bf 5 2007 1 rfl rfl rfl).trans (sm [(2001, 2007)] _ _ rfl rfl)) (fun j2 n2 v2 h => ?_) (fun v3 s h hs => ?_)
  ·unfold Ec at h
   refine Ar Ac rfl (AY rfl (Ae (Ao ?_)))
   refine Ba h rfl (fun h => ?_) fun h => ?_
   ·refine An (Ao (AJ (Ar Ac rfl (qm rfl ?_))))
    refine Bb h fun v5 a5 b5 h => qi AP AO a5 (Af b5) rfl (qK Dk AO rfl (qz HA rfl (qa rfl (qs AO rfl (Ae (Ar Ac rfl (qm rfl (qm rfl (AV rfl ?_)))))))))
    refine GA h fun c6 h => ZB (.p rfl) rfl AP AO (Qx (f := Ab) (n := 3) (fun _ => rfl) _) (.some _ _ _ _ c6.1) (.none _) ⟨rfl, tv⟩ tv (by have := c6.2.1; (try simp only [List.length_map]); omega) (by have := c6.2.2; (try simp only [List.length_map]); omega) (Yo Ab p0 _ _ (p0.length - ((wI .i64 (v2.2 + 1))).toNat) (by rw [List.length_map])) ?_
    refine qm rfl (Dp rfl ?_)
    refine BR h fun v7 a7 h => AC [2003] (hrc (((p0.drop ((wI .i64 (v2.2 + 1))).toNat).take (p0.length - ((wI .i64 (v2.2 + 1))).toNat))) ((wI .i64 (p1 - 1))) v7 a7) cR rfl (D4 KH rfl (qm rfl (Ae ?_)))
    refine AA (L := EO N v5 v7) h (fun v8 => mk [(0, pD (.sl (p0.map Ab))), (1, iD p1), (5, oD (.own 2004)), (7, oD (.ptr 7 0)), (13, pD (.sl (p0.map Ab))), (14, iD ((p0.length : Int))), (15, iD v2.2), (26, oD (.own 2005)), (27, iD ((v7.length : Int))), (28, iD v8.2)] [(7, .box (FG v5)), (2004, .vec 1 (v8.1.map (FX Ab))), (2005, .vec 1 (v7.map (FX Ab)))]) (fun v9 => mk [(0, pD (.sl (p0.map Ab))), (1, iD p1), (5, oD (.own 2006)), (13, pD (.sl (p0.map Ab))), (14, iD ((p0.length : Int))), (15, iD v2.2)] [(2006, .vec 1 (v9.map (FX Ab)))]) (fun _ _ => rfl) (sm [(2004, 2001), (2005, 2003)] _ _ rfl rfl) (fun j8 n8 v8 h => ?_) (fun v9 s h hs => ?_)
    ·unfold EO at h
     refine Ar Ac rfl (AY rfl (Ae (Ao ?_)))
     refine Ba h rfl (fun h => ?_) fun h => ?_
     ·refine An (Ao (AJ (Ar Ac rfl ?_)))
      refine Bb h fun v11 a11 b11 h => qI KH Uf a11 (Af b11) rfl (qj bi (Af b11) rfl (qa rfl (Ae (Ai Ac rfl (qm rfl (qL Dk AO rfl (E5 AP AO HA rfl (qm rfl ?_))))))))
      refine GA h fun c12 h => HT (f := Ab) AP AP AO NZ HA (fun _ => rfl) c12 rfl (EF (BD 36 _ _ rfl rfl) (E5 KH Uf Yz rfl ?_))
      refine GA h fun c13 h => Ew (f := (FX Ab)) KH KH Uf am Yz c13 rfl (qa rfl (Ae (Ai Ac rfl (AV rfl (qm rfl (Ae ?_))))))
      exact sn [(2004, 38)] h
     ·refine AT ?_
      exact sn [(2006, 2004)] h
    ·refine Aj hs (Ai Ac rfl (AV rfl (qm rfl (Ae ?_))))
     exact sn [(2001, 2006)] h
   ·refine AT ?_
    exact sn [(2002, 2001)] h
  ·refine Aj hs (Ar Ac rfl (qm rfl (qe rfl ?_)))
   obtain rfl := sj h
   refine Aj (sm [(1000, 2002)] [(4, oD (.own 1000))] [(1000, .vec 1 (v3.map (FX Ab)))] rfl rfl) (Aw ?_)
   exact ⟨⟨[_], ⟨.tmp _ _ rfl, tv⟩, rfl⟩, ⟨rfl, tv⟩⟩
theorem Ld (N : Nat) : ∀ (k : Nat) (p0 : List Aa) (p1 : Int) (r : (List (List Aa))), EC N k p0 p1 = some r → Ax Tryz.prog 51 [pD (.sl (p0.map Ab)), iD p1] [(1, r.map (FX Ab))] (oD (.own 0))
 | 0, _, _, _, h => by cases h
 | k + 1, p0, p1, r, h => OO N (EC N k) (Ld N k) p0 p1 r h
theorem Qg (N : Nat) (p0 : List Aa) (p1 : Int) (r : (List (List Aa))) (h : JI N p0 p1 = some r) : Ax Tryz.prog 51 [pD (.sl (p0.map Ab)), iD p1] [(1, r.map (FX Ab))] (oD (.own 0)) := Ld N N p0 p1 r h
theorem C2 (N : Nat) (p0 : List Int) (r : (List Int)) (h : A6 N p0 = some r) : Ax Tryz.prog 60 [pD (.sl (p0.map Av))] [(1, r.map Av)] (oD (.own 0)) := by
 unfold A6 at h
 refine Am (n := 8) (rs := [.tmp 2]) Tryz.func60 rfl rfl rfl (A0 rfl) (A0 rfl) rfl fun w0 S0 => ?_
 refine Ar Ac rfl (qa rfl (Ae (Ao (Ar Ac rfl (qm rfl ?_)))))
 refine Ox (.p rfl) rfl AE ?_
 refine Ae ?_
 refine Oc rfl (fun c2 => ?_) ?_
 ·have c2 := List.map_eq_nil_iff.1 c2
  rw [c2] at h
  have h : (some (([] : List Int))) = some r := h
  refine Ar Ac rfl (qe rfl ?_)
  obtain rfl := sj h
  refine Aj ((Bf 2 2001 1 rfl rfl rfl).trans (sm [(1000, 2001)] [(2, oD (.own 1000))] [(1000, .vec 1 ((([] : List Int)).map Av))] rfl rfl)) (Aw ?_)
  exact ⟨⟨[_], ⟨.tmp _ _ rfl, tv⟩, rfl⟩, ⟨rfl, tv⟩⟩
 ·refine An (Ar Ac rfl (E5 AE Et Lt rfl (qm rfl ?_)))
  refine GA h fun c1 h => HT (f := Av) AE AE Et Ms Lt (fun _ => rfl) c1 rfl (qe rfl ?_)
  obtain rfl := sj h
  refine Aj (sm [(1000, 7)] [(2, oD (.own 1000))] [(1000, .vec 1 (((([] : List Int)) ++ p0).map Av))] rfl rfl) (Aw ?_)
  exact ⟨⟨[_], ⟨.tmp _ _ rfl, tv⟩, rfl⟩, ⟨rfl, tv⟩⟩
theorem Io (N : Nat) (p0 : List (List Bool)) (r : (List (List Bool))) (h : DI N p0 = some r) : Ax Tryz.prog 138 [pD (.sl (p0.map (FX eB)))] [(1, r.map (FX eB))] (oD (.own 0)) := by
 unfold DI at h
 refine Am (n := 8) (rs := [.tmp 2]) Tryz.func138 rfl rfl rfl (A0 rfl) (A0 rfl) rfl fun w0 S0 => ?_
 refine Ar Ac rfl (qa rfl (Ae (Ao (Ar Ac rfl (qm rfl ?_)))))
 refine Ox (.p rfl) rfl D7 ?_
 refine Ae ?_
 refine Oc rfl (fun c2 => ?_) ?_
 ·have c2 := List.map_eq_nil_iff.1 c2
  rw [c2] at h
  have h : (some (([] : List (List Bool)))) = some r := h
  refine Ar Ac rfl (qe rfl ?_)
  obtain rfl := sj h
  refine Aj ((Bf 2 2001 1 rfl rfl rfl).trans (sm [(1000, 2001)] [(2, oD (.own 1000))] [(1000, .vec 1 ((([] : List (List Bool))).map (FX eB)))] rfl rfl)) (Aw ?_)
  exact ⟨⟨[_], ⟨.tmp _ _ rfl, tv⟩, rfl⟩, ⟨rfl, tv⟩⟩
 ·refine An (Ar Ac rfl (E5 D7 IS SX rfl (qm rfl ?_)))
  refine GA h fun c1 h => HT (f := (FX eB)) D7 D7 IS V3 SX (fun _ => rfl) c1 rfl (qe rfl ?_)
  obtain rfl := sj h
  refine Aj (sm [(1000, 7)] [(2, oD (.own 1000))] [(1000, .vec 1 (((([] : List (List Bool))) ++ p0).map (FX eB)))] rfl rfl) (Aw ?_)
  exact ⟨⟨[_], ⟨.tmp _ _ rfl, tv⟩, rfl⟩, ⟨rfl, tv⟩⟩
theorem HP (N : Nat) (p0 : List Bool) (r : (List Bool)) (h : De N p0 = some r) : Ax Tryz.prog 139 [pD (.sl (p0.map eB))] [(1, r.map eB)] (oD (.own 0)) := by
 unfold De at h
 refine Am (n := 8) (rs := [.tmp 2]) Tryz.func139 rfl rfl rfl (A0 rfl) (A0 rfl) rfl fun w0 S0 => ?_
 refine Ar Ac rfl (qa rfl (Ae (Ao (Ar Ac rfl (qm rfl ?_)))))
 refine Ox (.p rfl) rfl E6 ?_
 refine Ae ?_
 refine Oc rfl (fun c2 => ?_) ?_
 ·have c2 := List.map_eq_nil_iff.1 c2
  rw [c2] at h
  have h : (some (([] : List Bool))) = some r := h
  refine Ar Ac rfl (qe rfl ?_)
  obtain rfl := sj h
  refine Aj ((Bf 2 2001 1 rfl rfl rfl).trans (sm [(1000, 2001)] [(2, oD (.own 1000))] [(1000, .vec 1 ((([] : List Bool)).map eB))] rfl rfl)) (Aw ?_)
  exact ⟨⟨[_], ⟨.tmp _ _ rfl, tv⟩, rfl⟩, ⟨rfl, tv⟩⟩
 ·refine An (Ar Ac rfl (E5 E6 Nh Wl rfl (qm rfl ?_)))
  refine GA h fun c1 h => HT (f := eB) E6 E6 Nh WO Wl (fun _ => rfl) c1 rfl (qe rfl ?_)
  obtain rfl := sj h
  refine Aj (sm [(1000, 7)] [(2, oD (.own 1000))] [(1000, .vec 1 (((([] : List Bool)) ++ p0).map eB))] rfl rfl) (Aw ?_)
  exact ⟨⟨[_], ⟨.tmp _ _ rfl, tv⟩, rfl⟩, ⟨rfl, tv⟩⟩
theorem O3 (N : Nat) (p0 : Aq) (r : Aq) (h : GH N p0 = some r) : B0 Tryz.prog 109 [.e (.agg (Bt p0))] [] [.dvec 1 [.x 1 []] (r.fi.map (FX eB)), .dvec 1 [.x 1 []] (r.fo.map (FX eB))] (.e (.agg [iC r.ff, iC r.fg, iC r.fk, .pure (.val (.bool r.fp)), .own 0, .own 1])) := by
 unfold GH at h
 refine Bk (n := 48) (rs := [.cell 2 76]) Tryz.func109 rfl rfl rfl (A0 rfl) (A0 rfl) rfl rfl (A0 rfl) rfl (A0 rfl) fun w0 S0 GL => ?_
 refine Aj (sm [] [(0, .e (.agg (Bt p0)))] [] rfl rfl) (Ar Ac rfl (qb rfl (qz JX rfl (Ae (Ar Ac rfl (qf Fq rfl (ql HL rfl ?_)))))))
 refine BR h fun v1 a1 h => AC [2001] (Io N p0.fi v1 a1) Z2 rfl (qf Fo rfl (ql HL rfl ?_))
 refine BR h fun v2 a2 h => AC [2002] (Io N p0.fo v2 a2) Z2 rfl (qf Fq rfl (qs Uh rfl (qf Fo rfl (qs Uh rfl (AI (by kernel_rfl) (Ao (Ar Ac rfl (qf Fq rfl (ql HL rfl (D4 D7 rfl (qm rfl (Ae (Aj (TR 2001 1 [.x 1 []] _ rfl) ?_)))))))))))))
 refine AA (L := Eb N v1) h (fun v3 => mk [(1, oD (.ptr 1 0)), (2, oD (.ptr 2 0)), (15, iD ((v1.length : Int))), (16, iD v3.2)] [(1, .box [iC p0.ff, iC p0.fg, iC p0.fk, .pure (.val (.bool p0.fp)), .own 2003, .own 2004]), (2, .box [iC 0, iC 0, iC 0, .pure (.val (.bool false)), .pure (.nil0), .pure (.nil0)]), (2003, .pvec ((v3.2).toNat) 1 [.x 1 []] (v3.1.map (FX eB))), (2004, .vec 1 (v2.map (FX eB)))]) (fun v4 => mk [(1, oD (.ptr 1 0)), (2, oD (.ptr 2 0))] [(1, .box [iC p0.ff, iC p0.fg, iC p0.fk, .pure (.val (.bool p0.fp)), .own 2005, .own 2006]), (2, .box [iC 0, iC 0, iC 0, .pure (.val (.bool false)), .pure (.nil0), .pure (.nil0)]), (2005, .dvec 1 [.x 1 []] (v4.map (FX eB))), (2006, .vec 1 (v2.map (FX eB)))]) (fun _ _ => rfl) (sm [(2003, 2001), (2004, 2002)] _ _ rfl rfl) (fun j3 n3 v3 h => ?_) (fun v4 s h hs => ?_)
 ·unfold Eb at h
  refine Ar Ac rfl (AY rfl (Ae (Ao ?_)))
  refine Ba h rfl (fun h => ?_) fun h => ?_
  ·refine An (Ao (AJ (Ar Ac rfl (qm rfl (qa rfl (Ae (Ai Ac rfl (qf Fq rfl (ql HL rfl (qm rfl (qf Fq rfl (ql HL rfl (qm rfl ?_)))))))))))))
   refine Bb h fun v6 a6 b6 h => Ip (.p rfl) rfl rfl rfl (PD (FX eB) v3.1 _ _ _) D7 IS a6 (AB b6) ?_
   refine TL (.p rfl) rfl Me rfl (Af b6) rfl (Nat.le_refl _) ?_
   refine BR h fun v7 a7 h => AC [2007] (HP N v6 v7 a7) ZY rfl ?_
   refine Bb h fun v8 a8 b8 h => Ip (.p rfl) rfl rfl rfl (PD (FX eB) v3.1 _ _ _) D7 IS a8 (AB b8) ?_
   refine Rs rfl rfl rfl rfl (rows2 := v7.map eB) (cols2 := []) rfl rfl (Af b8) rfl IS rfl rfl (A4 (FX eB) v3.1 _ v7) ?_
   refine AI (by kernel_rfl) (Ai Ac rfl (AV rfl (qm rfl (Ae ?_))))
   exact GA h fun c9 h => Uc _ h ((TP 2003 rfl c9).trans (sm [] _ _ rfl rfl))
  ·refine AT ?_
   exact GA h fun c10 h => Uc _ h ((T4 2003 rfl (by rw [List.length_map]; exact c10)).trans (sm [(2005, 2003), (2006, 2004)] _ _ rfl rfl))
 ·refine Aj hs (Ao (Ar Ac rfl (qf Fo rfl (ql HL rfl (D4 D7 rfl (qm rfl (Ae (Aj (TR 2006 1 [.x 1 []] _ rfl) ?_))))))))
  refine AA (L := Cg N v2) h (fun v11 => mk [(1, oD (.ptr 1 0)), (2, oD (.ptr 2 0)), (32, iD ((v2.length : Int))), (33, iD v11.2)] [(1, .box [iC p0.ff, iC p0.fg, iC p0.fk, .pure (.val (.bool p0.fp)), .own 2008, .own 2009]), (2, .box [iC 0, iC 0, iC 0, .pure (.val (.bool false)), .pure (.nil0), .pure (.nil0)]), (2008, .dvec 1 [.x 1 []] (v4.map (FX eB))), (2009, .pvec ((v11.2).toNat) 1 [.x 1 []] (v11.1.map (FX eB)))]) (fun v12 => mk [(1, oD (.ptr 1 0)), (2, oD (.ptr 2 0))] [(1, .box [iC p0.ff, iC p0.fg, iC p0.fk, .pure (.val (.bool p0.fp)), .own 2010, .own 2011]), (2, .box [iC 0, iC 0, iC 0, .pure (.val (.bool false)), .pure (.nil0), .pure (.nil0)]), (2010, .dvec 1 [.x 1 []] (v4.map (FX eB))), (2011, .dvec 1 [.x 1 []] (v12.map (FX eB)))]) (fun _ _ => rfl) (sm [(2008, 2005), (2009, 2006)] _ _ rfl rfl) (fun j11 n11 v11 h => ?_) (fun v12 s h hs => ?_)
  ·unfold Cg at h
   refine Ar Ac rfl (AY rfl (Ae (Ao ?_)))
   refine Ba h rfl (fun h => ?_) fun h => ?_
   ·refine An (Ao (AJ (Ar Ac rfl (qm rfl (qa rfl (Ae (Ai Ac rfl (qf Fo rfl (ql HL rfl (qm rfl (qf Fo rfl (ql HL rfl (qm rfl ?_)))))))))))))
    refine Bb h fun v14 a14 b14 h => Ip (.p rfl) rfl rfl rfl (PD (FX eB) v11.1 _ _ _) D7 IS a14 (AB b14) ?_
    refine TL (.p rfl) rfl Me rfl (Af b14) rfl (Nat.le_refl _) ?_
    refine BR h fun v15 a15 h => AC [2012] (HP N v14 v15 a15) ZY rfl ?_
    refine Bb h fun v16 a16 b16 h => Ip (.p rfl) rfl rfl rfl (PD (FX eB) v11.1 _ _ _) D7 IS a16 (AB b16) ?_
    refine Rs rfl rfl rfl rfl (rows2 := v15.map eB) (cols2 := []) rfl rfl (Af b16) rfl IS rfl rfl (A4 (FX eB) v11.1 _ v15) ?_
    refine AI (by kernel_rfl) (Ai Ac rfl (AV rfl (qm rfl (Ae ?_))))
    exact GA h fun c17 h => Uc _ h ((TP 2009 rfl c17).trans (sm [] _ _ rfl rfl))
   ·refine AT ?_
    exact GA h fun c18 h => Uc _ h ((T4 2009 rfl (by rw [List.length_map]; exact c18)).trans (sm [(2010, 2008), (2011, 2009)] _ _ rfl rfl))
  ·refine Aj hs (Ar Ac rfl (qL HQ Dx rfl (qs Dx rfl (Ae ?_))))
   obtain rfl := sj h
   refine Aj (sm [(1000, 2010), (1001, 2011)] [(2, oD (.ptr 2 0))] [(2, .box [iC p0.ff, iC p0.fg, iC p0.fk, .pure (.val (.bool p0.fp)), .own 1000, .own 1001]), (1000, .dvec 1 [.x 1 []] (v4.map (FX eB))), (1001, .dvec 1 [.x 1 []] (v12.map (FX eB)))] rfl rfl) (Aw ?_)
   exact ⟨⟨[_], ⟨.cellN _ _ _ _ _ _ _ rfl rfl HQ Dx rfl rfl (J8 rfl), tv⟩, rfl⟩, tv, ⟨rfl, rfl, tv⟩⟩
theorem Oj (N : Nat) (p0 : Ad) (p1 : List Int) (p2 : List Int) (r : Ad × Int) (h : Gv N p0 p1 p2 = some r) : B0 Tryz.prog 75 [.e (.agg (Ak p0)), pD (.sl (p1.map Av)), pD (.sl (p2.map Av))] [] [.vec 1 (r.1.fc.map Av), .vec 1 (r.1.fh.map Av), .vec 1 (r.1.fm.map Av), .dvec 6 [.s, .s, .s, .s, .x 1 [.x 1 []], .x 1 [.x 1 []]] (r.1.fb.map AL)] (.tup [.agg [.own 0, .own 1, .own 2, .own 3], .one (iC r.2)]) := by
 unfold Gv at h
 refine Bk (n := 49) (rs := [.cell 6 29, .tmp 7]) Tryz.func75 rfl rfl rfl (A0 rfl) (A0 rfl) rfl rfl (A0 rfl) rfl (A0 rfl) fun w0 S0 GL => ?_
 refine Aj (sm [] [(0, .e (.agg (Ak p0))), (1, pD (.sl (p1.map Av))), (2, pD (.sl (p2.map Av)))] [] rfl rfl) (Ar Ac rfl (qb rfl (qz KC rfl (qa rfl (Ae (Ao (Ar Ac rfl (qL Dv Ci rfl ?_))))))))
 refine BR h fun v1 a1 h => AC [] (EV N p0 v1 a1) WZ rfl (qa rfl (Ae (Ar Ac rfl (qm rfl (CF rfl (Ae ?_))))))
 refine Ba h rfl (fun h => ?_) fun h => ?_
 ·refine Ar Ac rfl (Bo KC TI rfl (qm rfl (qs Ci rfl (qe rfl ?_))))
  obtain rfl := sj h
  refine Aj ((Ay 6 0 2001 1 _ rfl rfl rfl rfl).trans ((Ay 6 1 2002 1 _ rfl rfl rfl rfl).trans ((Ay 6 2 2003 1 _ rfl rfl rfl rfl).trans ((Ay 6 3 2004 6 _ rfl rfl rfl rfl).trans ((IJ 2004 6 [.s, .s, .s, .s, .x 1 [.x 1 []], .x 1 [.x 1 []]] [] [] rfl rfl).trans (sm [(1000, 2001), (1001, 2002), (1002, 2003), (1003, 2004)] [(6, oD (.ptr 6 0)), (7, iD v1)] [(6, .box [.own 1000, .own 1001, .own 1002, .own 1003]), (1000, .vec 1 ((([] : List Int)).map Av)), (1001, .vec 1 ((([] : List Int)).map Av)), (1002, .vec 1 ((([] : List Int)).map Av)), (1003, .dvec 6 [.s, .s, .s, .s, .x 1 [.x 1 []], .x 1 [.x 1 []]] ((([] : List Aq)).map AL))] rfl rfl)))))) (Aw ?_)
  exact ⟨⟨[_, _], ⟨.cellN _ _ _ _ _ _ _ rfl rfl Dv Ci rfl rfl (J8 rfl), ⟨.tmp _ _ rfl, tv⟩⟩, rfl⟩, tv, ⟨rfl, rfl, rfl, rfl, tv⟩⟩
 ·refine An (Ar Ac rfl (qf BF rfl (ql Bi rfl ?_)))
  refine BR h fun v3 a3 h => AC [2005] (C2 N p0.fc v3 a3) UI rfl (qm rfl ?_)
  refine BR h fun v4 a4 h => AC [2006] (C2 N p1 v4 a4) UI rfl (qm rfl ?_)
  refine BR h fun v5 a5 h => AC [2007] (C2 N p2 v5 a5) UI rfl (Bo KC TI rfl (qz KC rfl (qs Ci rfl (Ae (Ao (Ar Ac rfl (qf BJ rfl (ql GN rfl (AX C9 rfl (qm rfl (Ae ?_)))))))))))
  refine AA (L := DW N p0) h (fun v6 => mk [(6, oD (.ptr 6 0)), (9, oD (.ptr 9 0)), (28, pD (.sl (p0.fb.map AL))), (29, iD ((p0.fb.length : Int))), (30, iD v6.2)] [(6, .box [.pure (.nil0), .pure (.nil0), .pure (.nil0), .pure (.nil0)]), (9, .box [.own 2008, .own 2009, .own 2010, .own 2011]), (2008, .vec 1 (v3.map Av)), (2009, .vec 1 (v4.map Av)), (2010, .vec 1 (v5.map Av)), (2011, .dvec 6 [.s, .s, .s, .s, .x 1 [.x 1 []], .x 1 [.x 1 []]] (v6.1.map AL))]) (fun v7 => mk [(6, oD (.ptr 6 0)), (9, oD (.ptr 9 0))] [(6, .box [.pure (.nil0), .pure (.nil0), .pure (.nil0), .pure (.nil0)]), (9, .box [.own 2012, .own 2013, .own 2014, .own 2015]), (2012, .vec 1 (v3.map Av)), (2013, .vec 1 (v4.map Av)), (2014, .vec 1 (v5.map Av)), (2015, .dvec 6 [.s, .s, .s, .s, .x 1 [.x 1 []], .x 1 [.x 1 []]] (v7.map AL))]) (fun _ _ => rfl) ((Ay 9 3 2018 6 _ rfl rfl rfl rfl).trans ((IJ 2018 6 [.s, .s, .s, .s, .x 1 [.x 1 []], .x 1 [.x 1 []]] [] [] rfl rfl).trans (sm [(2008, 2005), (2009, 2006), (2010, 2007), (2011, 2018)] _ _ rfl rfl))) (fun j6 n6 v6 h => ?_) (fun v7 s h hs => ?_)
  ·unfold DW at h
   refine Ar Ac rfl (AY rfl (Ae (Ao ?_)))
   refine Ba h rfl (fun h => ?_) fun h => ?_
   ·refine An (Ao (AJ (Ar Ac rfl ?_)))
    refine Bb h fun v9 a9 b9 h => qi C9 Dx a9 (Af b9) rfl (qK HQ Dx rfl (qz JX rfl (qs Dx rfl (Ae (Ai Ac rfl (qf BJ rfl (ql GN rfl (qL HQ Dx rfl ?_))))))))
    refine BR h fun v10 a10 h => DT (ds0 := [_]) [] [2016, 2017] [] (O3 N v9 v10 a10) (.p rfl) dx rfl ⟨rfl, tv⟩ rfl rfl (by decide) tv rfl (Be rfl) ⟨rfl, rfl, tv⟩ tv rfl rfl rfl ?_
    refine Jq (x := .agg [iC v10.ff, iC v10.fg, iC v10.fk, .pure (.val (.bool v10.fp)), .own 2016, .own 2017]) (cs := [iC v10.ff, iC v10.fg, iC v10.fk, .pure (.val (.bool v10.fp)), .own 2016, .own 2017]) (ts := [.val (.int .i64 v10.ff), .val (.int .i64 v10.fg), .val (.int .i64 v10.fk), .val (.bool v10.fp), .sl (v10.fi.map (FX eB)), .sl (v10.fo.map (FX eB))]) [.s, .s, .s, .s, .x 1 [.x 1 []], .x 1 [.x 1 []]] [(2016, .dvec 1 [.x 1 []] (v10.fi.map (FX eB))), (2017, .dvec 1 [.x 1 []] (v10.fo.map (FX eB)))] (.p rfl) rfl rfl rfl rfl rfl ⟨rfl, rfl, tv⟩ ⟨rfl, rfl, rfl, rfl, rfl, rfl, tv⟩ rfl rfl rfl C9 Dx JX (A0 rfl) ?_
    refine GA h fun c11 h => Lj (.p rfl) rfl rfl rfl rfl rfl (by decide) C9 C9 Dx Ys (A0 rfl) JX rfl (Oq (f := AL) (g := AL) (xs := v6.1) (ys := (([v10] : List Aq))) c11) (N1 AL v6.1 (([v10] : List Aq))) rfl rfl ?_
    refine qf BJ rfl (qs bu rfl (AI (by kernel_rfl) (Ai Ac rfl (AV rfl (qm rfl (Ae ?_))))))
    exact sn [(2011, 39)] h
   ·refine AT ?_
    exact sn [(2012, 2008), (2013, 2009), (2014, 2010), (2015, 2011)] h
  ·refine Aj hs (Ao (Ar Ac rfl (qL Dv Ci rfl ?_)))
   refine BR h fun v12 a12 h => Fp [] [2012, 2013, 2014, 2015] (EV N ((Ad.mk v3 v4 v5 v7)) v12 a12) WZ Dr rfl (qa rfl (Ae (Ar Ac rfl (qm rfl (CF rfl (Ae ?_))))))
   refine Ba h rfl (fun h => ?_) fun h => ?_
   ·refine Ar Ac rfl (Bo KC TI rfl (qm rfl (qs Ci rfl (qe rfl ?_))))
    obtain rfl := sj h
    refine Aj ((Ay 6 0 2019 1 _ rfl rfl rfl rfl).trans ((Ay 6 1 2020 1 _ rfl rfl rfl rfl).trans ((Ay 6 2 2021 1 _ rfl rfl rfl rfl).trans ((Ay 6 3 2022 6 _ rfl rfl rfl rfl).trans ((IJ 2022 6 [.s, .s, .s, .s, .x 1 [.x 1 []], .x 1 [.x 1 []]] [] [] rfl rfl).trans (sm [(1000, 2019), (1001, 2020), (1002, 2021), (1003, 2022)] [(6, oD (.ptr 6 0)), (7, iD v12)] [(6, .box [.own 1000, .own 1001, .own 1002, .own 1003]), (1000, .vec 1 ((([] : List Int)).map Av)), (1001, .vec 1 ((([] : List Int)).map Av)), (1002, .vec 1 ((([] : List Int)).map Av)), (1003, .dvec 6 [.s, .s, .s, .s, .x 1 [.x 1 []], .x 1 [.x 1 []]] ((([] : List Aq)).map AL))] rfl rfl)))))) (Aw ?_)
    exact ⟨⟨[_, _], ⟨.cellN _ _ _ _ _ _ _ rfl rfl Dv Ci rfl rfl (J8 rfl), ⟨.tmp _ _ rfl, tv⟩⟩, rfl⟩, tv, ⟨rfl, rfl, rfl, rfl, tv⟩⟩
   ·refine An (Ar Ac rfl (qL Dv Ci rfl (qs Ci rfl (qe rfl ?_))))
    obtain rfl := sj h
    refine Aj (sm [(1000, 2012), (1001, 2013), (1002, 2014), (1003, 2015)] [(6, oD (.ptr 6 0)), (7, iD 0)] [(6, .box [.own 1000, .own 1001, .own 1002, .own 1003]), (1000, .vec 1 (v3.map Av)), (1001, .vec 1 (v4.map Av)), (1002, .vec 1 (v5.map Av)), (1003, .dvec 6 [.s, .s, .s, .s, .x 1 [.x 1 []], .x 1 [.x 1 []]] (v7.map AL))] rfl rfl) (Aw ?_)
    exact ⟨⟨[_, _], ⟨.cellN _ _ _ _ _ _ _ rfl rfl Dv Ci rfl rfl (J8 rfl), ⟨.tmp _ _ rfl, tv⟩⟩, rfl⟩, tv, ⟨rfl, rfl, rfl, rfl, tv⟩⟩
theorem Qd (N : Nat) (p0 : Ad) (p1 : List Aa) (r : Ad) (h : Ht N p0 p1 = some r) : Ax Tryz.prog 47 [.e (.agg (Ak p0)), pD (.sl (p1.map Ab))] [(1, r.fc.map Av), (1, r.fh.map Av), (1, r.fm.map Av)] (.e (.agg [.own 0, .own 1, .own 2, sC (r.fb.map AL)])) := by
 unfold Ht at h
 refine Am (n := 40) (rs := [.cell 4 29]) Tryz.func47 rfl rfl rfl (A0 rfl) (A0 rfl) rfl fun w0 S0 => ?_
 refine Ar Ac rfl (qb rfl (qz KC rfl (Ae (Ar Ac rfl (qL Dv Ci rfl (qf HD rfl (ql Bi rfl (qf Jr rfl (ql Bi rfl ?_)))))))))
 refine BR h fun v1 a1 h => DT (ds0 := [_, _, _]) [] [2001, 2002, 2003, 2004] [] (Oj N p0 p0.fh p0.fm v1 a1) (.p rfl) eG rfl ⟨rfl, rfl, rfl, tv⟩ rfl rfl (by decide) tv rfl (Be rfl) ⟨rfl, rfl, rfl, rfl, tv⟩ tv rfl rfl rfl ?_
 refine qm rfl (qx rfl (qx rfl (qz KC rfl (qs Ci rfl (qa rfl (Ae (Ao (Ar Ac rfl (qm rfl (AX AP rfl (qm rfl (Ae ?_))))))))))))
 refine AA (L := EQ N p1) h (fun v2 => mk [(4, oD (.ptr 4 0)), (5, oD (.ptr 5 0)), (18, pD (.sl (p1.map Ab))), (19, iD ((p1.length : Int))), (20, iD v2.2)] [(4, .box [.pure (.nil0), .pure (.nil0), .pure (.nil0), .pure (.nil0)]), (5, .box [.own 2005, .own 2006, .own 2007, .own 2008]), (2005, .vec 1 (v1.1.fc.map Av)), (2006, .vec 1 (v1.1.fh.map Av)), (2007, .vec 1 (v1.1.fm.map Av)), (2008, .dvec 6 [.s, .s, .s, .s, .x 1 [.x 1 []], .x 1 [.x 1 []]] (v2.1.map AL))]) (fun v3 => mk [(4, oD (.ptr 4 0)), (5, oD (.ptr 5 0))] [(4, .box [.pure (.nil0), .pure (.nil0), .pure (.nil0), .pure (.nil0)]), (5, .box [.own 2009, .own 2010, .own 2011, .own 2012]), (2009, .vec 1 (v1.1.fc.map Av)), (2010, .vec 1 (v1.1.fh.map Av)), (2011, .vec 1 (v1.1.fm.map Av)), (2012, .dvec 6 [.s, .s, .s, .s, .x 1 [.x 1 []], .x 1 [.x 1 []]] (v3.map AL))]) (fun _ _ => rfl) (sm [(2005, 2001), (2006, 2002), (2007, 2003), (2008, 2004)] _ _ rfl rfl) (fun j2 n2 v2 h => ?_) (fun v3 s h hs => ?_)
 ·unfold EQ at h
  refine Ar Ac rfl (AY rfl (Ae (Ao ?_)))
  refine Ba h rfl (fun h => ?_) fun h => ?_
  ·refine An (Ao (AJ (Ar Ac rfl ?_)))
   refine Bb h fun v5 a5 b5 h => qi AP AO a5 (Af b5) rfl (qK Dk AO rfl (qz HA rfl (qs AO rfl (Ae (Ai Ac rfl (qf BJ rfl (ql GN rfl (qf SN rfl (ql CV rfl ?_)))))))))
   refine Bb h fun v6 a6 b6 h => Ip (.p rfl) rfl rfl rfl (KQ AL v2.1 _ _) C9 Dx a6 (AB b6) ?_
   refine qh Fq rfl ?_
   refine Vb (.p rfl) rfl HL rfl (Af b6) rfl rfl rfl rfl ?_
   refine qf Sr rfl (ql CV rfl ?_)
   refine Bb h fun v7 a7 b7 h => Ip (.p rfl) rfl rfl rfl (KQ (FX eB) v6.fi _ _) D7 IS a7 (AB b7) ?_
   refine Vb (.p rfl) rfl Me rfl (Af b7) rfl rfl rfl rfl ?_
   refine qf SY rfl (ql CV rfl ?_)
   refine Bb h fun v8 a8 b8 h => qI E6 Nh a8 (Af b8) rfl ?_
   refine A7 rfl rfl rfl rfl (Af b8) rfl Nh rfl (A0 rfl) (A4 eB v7 _ true) ?_
   refine AI (by kernel_rfl) (Aj ((RB 30 34 (e2 := 1) (cols2 := []) (rows2 := (v7.set ((v5.fu).toNat) true).map eB) rfl rfl rfl (Af b7) rfl rfl (A4 (FX eB) v6.fi _ (v7.set ((v5.fu).toNat) true))).trans (RB 2008 30 (e2 := 1) (cols2 := [.x 1 []]) (rows2 := (v6.fi.set ((v5.fv).toNat) (v7.set ((v5.fu).toNat) true)).map (FX eB)) rfl rfl rfl (Af b6) rfl rfl (A4 AL v2.1 _ ((Aq.mk v6.ff v6.fg v6.fk v6.fp (v6.fi.set ((v5.fv).toNat) (v7.set ((v5.fu).toNat) true)) v6.fo))))) (Ai Ac rfl (AV rfl (qm rfl (Ae ?_)))))
   exact sn [] h
  ·refine AT ?_
   exact sn [(2009, 2005), (2010, 2006), (2011, 2007), (2012, 2008)] h
 ·refine Aj hs (Ar Ac rfl (qL Dv Ci rfl (qs Ci rfl (Ae ?_))))
  obtain rfl := sj h
  refine Aj ((OZ 2012 _ _ _ rfl rfl).trans (sm [(1000, 2009), (1001, 2010), (1002, 2011)] [(4, oD (.ptr 4 0))] [(4, .box [.own 1000, .own 1001, .own 1002, sC (v3.map AL)]), (1000, .vec 1 (v1.1.fc.map Av)), (1001, .vec 1 (v1.1.fh.map Av)), (1002, .vec 1 (v1.1.fm.map Av))] rfl rfl)) (Aw ?_)
  exact ⟨⟨[_], ⟨.cellN _ _ _ _ _ _ _ rfl rfl Dv Ci rfl rfl (J8 rfl), tv⟩, rfl⟩, ⟨rfl, rfl, rfl, tv⟩⟩
theorem N9 (N : Nat) (p0 : Int) (p1 : Int) (r : Int × Int) (h : Iz N p0 p1 = some r) : Ax Tryz.prog 121 [pD (.val (.int .u32 p0)), pD (.val (.int .u32 p1))] [] (.tup [.one (.pure (.val (.int .u32 r.1))), .one (.pure (.val (.int .u32 r.2)))]) := by
 unfold Iz at h
 refine Am (n := 17) (rs := [.tmp 4, .tmp 5]) Tryz.func121 rfl rfl rfl (A0 rfl) (A0 rfl) rfl fun w0 S0 => ?_
 refine Ar Ac rfl (qa rfl (qa rfl (Ae (Ar Ac rfl (qm rfl (Ja UP aq rfl (qm rfl (Ja UP aq rfl (Kj rfl (qa rfl (Ae (Ar Ac rfl (qm rfl (II rfl (by decide) (Ja YF Ux rfl (qm rfl (Ja YF Ux rfl (qa rfl (qe rfl ?_)))))))))))))))))))
 obtain rfl := sj h
 refine Aj (sm [] [(4, pD (.val (.int .u32 ((wI .u32 ((FA .u64 ((wI .u64 ((wI .u64 p0) * (wI .u64 p1)))) 32))))))), (5, pD (.val (.int .u32 ((wI .u32 ((wI .u64 ((wI .u64 p0) * (wI .u64 p1)))))))))] [] rfl rfl) (Aw ?_)
 exact ⟨⟨[_, _], ⟨.tmp _ _ rfl, ⟨.tmp _ _ rfl, tv⟩⟩, rfl⟩, tv⟩
theorem N6 (N : Nat) (p0 : Int) (p1 : Int) (r : Int × Int) (h : IE N p0 p1 = some r) : Ax Tryz.prog 122 [pD (.val (.int .u64 p0)), pD (.val (.int .u64 p1))] [] (.tup [.one (.pure (.val (.int .u64 r.1))), .one (.pure (.val (.int .u64 r.2)))]) := by
 unfold IE at h
 refine Am (n := 51) (rs := [.tmp 4, .tmp 5]) Tryz.func122 rfl rfl rfl (A0 rfl) (A0 rfl) rfl fun w0 S0 => ?_
 refine Ar Ac rfl (qa rfl (qa rfl (Ae (Ar Ac rfl (qm rfl (M5 rfl (qa rfl (Ae (Ar Ac rfl (qm rfl (II rfl (by decide) (qa rfl (Ae (Ar Ac rfl (qm rfl (M5 rfl (qa rfl (Ae (Ar Ac rfl (qm rfl (II rfl (by decide) (qa rfl (Ae (Ar Ac rfl (qm rfl (qm rfl (Kj rfl (qa rfl (Ae (Ar Ac rfl (qm rfl (qm rfl ?_))))))))))))))))))))))))))))))))
 refine Kj rfl (qm rfl (II rfl (by decide) (AV rfl (qa rfl (Ae (Ar Ac rfl (qm rfl (M5 rfl (qa rfl (Ae (Ar Ac rfl (qm rfl (II rfl (by decide) (qa rfl (Ae (Ar Ac rfl (qm rfl (qm rfl (qm rfl (Kj rfl (AV rfl (qa rfl (Ae (Ar Ac rfl (qm rfl (qm rfl (Kj rfl (qm rfl (AV rfl (qm rfl (II rfl (by decide) (AV rfl (qa rfl (Ae (Ao ?_)))))))))))))))))))))))))))))))))))
 refine Ai Ac rfl (qm rfl (qm rfl (Kj rfl (qe rfl ?_))))
 obtain rfl := sj h
 refine Aj (sm [] [(4, pD (.val (.int .u64 ((wI .u64 ((wI .u64 ((wI .u64 ((FA .u64 p0 32) * (FA .u64 p1 32))) + (FA .u64 ((wI .u64 ((wI .u64 ((FA .u64 p0 32) * (Hh .u64 p1 4294967295))) + (FA .u64 ((wI .u64 ((Hh .u64 p0 4294967295) * (Hh .u64 p1 4294967295)))) 32)))) 32))) + (FA .u64 ((wI .u64 ((Hh .u64 ((wI .u64 ((wI .u64 ((FA .u64 p0 32) * (Hh .u64 p1 4294967295))) + (FA .u64 ((wI .u64 ((Hh .u64 p0 4294967295) * (Hh .u64 p1 4294967295)))) 32)))) 4294967295) + (wI .u64 ((Hh .u64 p0 4294967295) * (FA .u64 p1 32)))))) 32))))))), (5, pD (.val (.int .u64 ((wI .u64 (p0 * p1))))))] [] rfl rfl) (Aw ?_)
 exact ⟨⟨[_, _], ⟨.tmp _ _ rfl, ⟨.tmp _ _ rfl, tv⟩⟩, rfl⟩, tv⟩
theorem Pz (N : Nat) (p0 : Int) (p1 : Int) (r : Int × Int) (h : Ji N p0 p1 = some r) : Ax Tryz.prog 86 [pD (.val (.int .u64 p0)), pD (.val (.int .u64 p1))] [] (.tup [.one (.pure (.val (.int .u64 r.1))), .one (.pure (.val (.int .u64 r.2)))]) := by
 unfold Ji at h
 refine Am (n := 30) (rs := [.tmp 4, .tmp 5]) Tryz.func86 rfl rfl rfl (A0 rfl) (A0 rfl) rfl fun w0 S0 => ?_
 refine Ar Ac rfl (qa rfl (qa rfl (Ae (Ao ?_))))
 refine Ba h rfl (fun h => ?_) fun h => ?_
 ·refine Ar Ac rfl (qm rfl (Ja T7 Ux rfl (qm rfl (Ja T7 Ux rfl ?_))))
  refine BR h fun v2 a2 h => AC [] (N9 N ((wI .u32 p0)) ((wI .u32 p1)) v2 a2) du rfl (qm rfl (qx rfl (qx rfl (qa rfl (qa rfl (Ae (Ar Ac rfl (qm rfl (Ja UP R0 rfl (qm rfl (Ja UP R0 rfl (qa rfl (qe rfl ?_)))))))))))))
  obtain rfl := sj h
  refine Aj (sm [] [(4, pD (.val (.int .u64 ((wI .u64 v2.1))))), (5, pD (.val (.int .u64 ((wI .u64 v2.2)))))] [] rfl rfl) (Aw ?_)
  exact ⟨⟨[_, _], ⟨.tmp _ _ rfl, ⟨.tmp _ _ rfl, tv⟩⟩, rfl⟩, tv⟩
 ·refine An (Ar Ac rfl (qm rfl (qm rfl ?_)))
  refine BR h fun v3 a3 h => AC [] (N6 N p0 p1 v3 a3) cB rfl (qm rfl (qx rfl (qx rfl (qa rfl (qa rfl (Ae (Ar Ac rfl (qm rfl (qm rfl (qa rfl (qe rfl ?_)))))))))))
  obtain rfl := sj h
  refine Aj (sm [] [(4, pD (.val (.int .u64 v3.1))), (5, pD (.val (.int .u64 v3.2)))] [] rfl rfl) (Aw ?_)
  exact ⟨⟨[_, _], ⟨.tmp _ _ rfl, ⟨.tmp _ _ rfl, tv⟩⟩, rfl⟩, tv⟩
theorem Li (N : Nat) (p0 : List Int) (p1 : Int) (r : (List Int)) (h : FH N p0 p1 = some r) : Ax Tryz.prog 61 [pD (.sl (p0.map Av)), iD p1] [(1, r.map Av)] (oD (.own 0)) := by
 unfold FH at h
 refine Am (n := 48) (rs := [.tmp 4]) Tryz.func61 rfl rfl rfl (A0 rfl) (A0 rfl) rfl fun w0 S0 => ?_
 refine Ar Ac rfl (qe rfl ?_)
 refine AR h (fun v1 => mk [(0, pD (.sl (p0.map Av))), (1, iD p1)] []) (fun j1 h => ?_) (fun v1 h => ?_)
 ·refine Ar Ac rfl (qm rfl (AY rfl (Ae ?_)))
  refine Ba h rfl (fun h => ?_) fun h => ?_
  ·refine Ai Ac rfl ?_
   cases h
  ·refine An ?_
   exact sn [] h
 ·refine Ar Ac rfl (qm rfl (AX AE rfl (Ja bq R0 rfl (qm rfl (Ja bq R0 rfl ?_)))))
  refine BR h fun v3 a3 h => AC [] (Pz N ((wI .u64 ((p0.length : Int)))) ((wI .u64 p1)) v3 a3) eK rfl (qm rfl (qx rfl (qx rfl (qa rfl (qe rfl ?_)))))
  refine AR h (fun v4 => mk [(0, pD (.sl (p0.map Av))), (6, pD (.val (.int .u64 v3.2)))] []) (fun j4 h => ?_) (fun v4 h => ?_)
  ·refine AR h (fun v5 => mk [(0, pD (.sl (p0.map Av))), (6, pD (.val (.int .u64 v3.2))), (26, bD v5)] []) (fun j5 h => ?_) (fun v5 h => ?_)
   ·refine Ai Ac rfl (qm rfl (GB rfl (qm rfl ?_)))
    refine E7 23 h rfl (fun h => ?_) fun h => ?_
    ·refine qn rfl (qn rfl (qp rfl (Ae ?_)))
     exact sn [] h
    ·refine qm rfl (GB rfl (qp rfl (Ae ?_)))
     exact sn [] h
   ·refine Ba h rfl (fun h => ?_) fun h => ?_
    ·refine Ai Ac rfl ?_
     cases h
    ·refine An ?_
     exact sn [] h
  ·refine Ar Ac rfl (qm rfl (Ja T7 XX rfl ?_))
   refine GA h fun c8 h => Mo (.p rfl) rfl rfl rfl AE Et Ms (A0 rfl) Lt rfl rfl rfl c8.1 c8.2.1 c8.2.2 (Sy Av _ ((0 : Int))) ?_
   refine qa rfl (Ae (Ar Ac rfl (qm rfl (qm rfl ?_))))
   refine V0 Av (List.replicate ((wI .i64 v3.2)).toNat ((0 : Int))) p0 (.p rfl) rfl (Iu Av _ _ (List.replicate ((wI .i64 v3.2)).toNat ((0 : Int)))) rfl rfl (ZM Av _ _ (fun _ => rfl)) tv AE Et ?_
   refine qa rfl (Ae (Ao ?_))
   refine AA (L := E3 N) h (fun v9 => mk [(7, oD (.own 2001)), (8, iD v9.2)] [(2001, .vec 1 (v9.1.map Av))]) (fun v10 => mk [(7, oD (.own 2002))] [(2002, .vec 1 (v10.map Av))]) (fun _ _ => rfl) (sm [(2001, 30)] _ _ rfl rfl) (fun j9 n9 v9 h => ?_) (fun v10 s h hs => ?_)
   ·unfold E3 at h
    refine Ao (Ar Ac rfl (qm rfl (qm rfl (D4 AE rfl (AY rfl (Ae ?_))))))
    refine Ba h rfl (fun h => ?_) fun h => ?_
    ·refine An (AJ (Ai Ac rfl (qm rfl (qm rfl (qm rfl ?_)))))
     obtain ⟨c12, h⟩ := F9 h
     have w13 : ((v9.2).toNat) + ((v9.1.length - (v9.2).toNat)) ≤ v9.1.length := by have := c12.2.1; have := c12.2.2; omega
     refine Il Av v9.1 (.p rfl) rfl (Iu Av _ _ v9.1) rfl AE Et (.some _ _ _ _ c12.1) (.none _) ⟨rfl, tv⟩ tv c12.2.1 (by rw [Nat.zero_add]; exact c12.2.2) (Nat.zero_add _) rfl ?_
     refine qm rfl (qm rfl ?_)
     obtain ⟨c14, h⟩ := F9 h
     have w15 : 0 + ((v9.2).toNat) ≤ v9.1.length := by have := c14.2.1; have := c14.2.2; omega
     refine Il Av v9.1 (.p rfl) rfl (Iu Av _ _ v9.1) rfl AE Et (.none _) (.some _ _ _ _ c14.1) tv ⟨rfl, tv⟩ c14.2.1 (by rw [Nat.zero_add]; exact c14.2.2) (Nat.zero_add _) rfl ?_
     refine V0 Av v9.1 (((v9.1.drop 0).take ((v9.2).toNat))) (.p rfl) rfl (J7 Av _ _ ((v9.2).toNat) ((v9.1.length - (v9.2).toNat)) v9.1 w13) rfl rfl (RU Av _ _ 0 ((v9.2).toNat) v9.1 w15) ⟨rfl, tv⟩ AE Et ?_
     refine AV rfl (qa rfl (AI (by kernel_rfl) ?_))
     exact sn [] h
    ·refine AT ?_
     exact sn [(2002, 2001)] h
   ·refine Aj hs (Ar Ac rfl (qm rfl (qe rfl ?_)))
    obtain rfl := sj h
    refine Aj (sm [(1000, 2002)] [(4, oD (.own 1000))] [(1000, .vec 1 (v10.map Av))] rfl rfl) (Aw ?_)
    exact ⟨⟨[_], ⟨.tmp _ _ rfl, tv⟩, rfl⟩, ⟨rfl, tv⟩⟩
theorem LD (N : Nat) (p0 : Aq) (r : Bool) (h : GW N p0 = some r) : Ax Tryz.prog 62 [.e (.agg (Bt p0))] [] (bD r) := by
 unfold GW at h
 refine Am (n := 11) (rs := [.tmp 2]) Tryz.func62 rfl rfl rfl (A0 rfl) (A0 rfl) rfl fun w0 S0 => ?_
 refine Ar Ac rfl (qb rfl (qe rfl ?_))
 refine AR h (fun v1 => mk [(2, bD v1)] []) (fun j1 h => ?_) (fun v1 h => ?_)
 ·refine Ai Ac rfl (qf HJ rfl (ql CV rfl (B9 rfl (qm rfl ?_))))
  refine E7 6 h rfl (fun h => ?_) fun h => ?_
  ·refine qn rfl (qn rfl (qn rfl (qp rfl (qe rfl ?_))))
   exact sn [] h
  ·refine qf HJ rfl (ql CV rfl (B9 rfl (qp rfl (qe rfl ?_))))
   exact sn [] h
 ·obtain rfl := sj h
  refine Aj (sm [] [(2, bD v1)] [] rfl rfl) (Aw ?_)
  exact ⟨⟨[_], ⟨.tmp _ _ rfl, tv⟩, rfl⟩, tv⟩
theorem UA (N : Nat) (p0 : Ad) (r : Ag × Int) (h : Jb N p0 = some r) : Ax Tryz.prog 35 [.e (.agg (Ak p0))] [(1, r.1.fd.map Av), (1, r.1.fa.map Av), (1, r.1.fe.map ER)] (.tup [.agg [.own 0, .own 1, .own 2], .one (iC r.2)]) := by
 unfold Jb at h
 refine Am (n := 50) (rs := [.cell 2 64, .tmp 3]) Tryz.func35 rfl rfl rfl (A0 rfl) (A0 rfl) rfl fun w0 S0 => ?_
 refine Ar Ac rfl (qb rfl (qz FI rfl (qa rfl (Ae (Ao (Ar Ac rfl (qL Dv Ci rfl ?_)))))))
 refine BR h fun v1 a1 h => AC [] (EV N p0 v1 a1) WZ rfl (qa rfl (Ae (Ar Ac rfl (qm rfl (CF rfl (Ae ?_))))))
 refine Ba h rfl (fun h => ?_) fun h => ?_
 ·refine Ar Ac rfl (Bo FI J4 rfl (qm rfl (qs Bc rfl (qe rfl ?_))))
  obtain rfl := sj h
  refine Aj ((Ay 2 0 2001 1 _ rfl rfl rfl rfl).trans ((Ay 2 1 2002 1 _ rfl rfl rfl rfl).trans ((Ay 2 2 2003 1 _ rfl rfl rfl rfl).trans (sm [(1000, 2001), (1001, 2002), (1002, 2003)] [(2, oD (.ptr 2 0)), (3, iD v1)] [(2, .box [.own 1000, .own 1001, .own 1002]), (1000, .vec 1 ((([] : List Int)).map Av)), (1001, .vec 1 ((([] : List Int)).map Av)), (1002, .vec 1 ((([] : List Int)).map ER))] rfl rfl)))) (Aw ?_)
  exact ⟨⟨[_, _], ⟨.cellN _ _ _ _ _ _ _ rfl rfl CM Bc rfl rfl (J8 rfl), ⟨.tmp _ _ rfl, tv⟩⟩, rfl⟩, ⟨rfl, rfl, rfl, tv⟩⟩
 ·refine An (Ar Ac rfl (qf HD rfl (ql Bi rfl ?_)))
  refine BR h fun v3 a3 h => AC [2004] (C2 N p0.fh v3 a3) UI rfl (E5 AE Et Lt rfl (qf HD rfl (ql Bi rfl (AX AE rfl ?_))))
  refine BR h fun v4 a4 h => Fp [2005] [17] (Li N (([(-1)] : List Int)) ((p0.fh.length : Int)) v4 a4) eg (Ks (fun _ => rfl) Dr) rfl (qf BJ rfl (ql GN rfl (AX C9 rfl ?_)))
  refine GA h fun c5 h => Mo (.p rfl) rfl rfl rfl E0 HK TV (A0 rfl) Sk rfl rfl rfl c5.1 c5.2.1 c5.2.2 (Sy ER _ ((0 : Int))) ?_
  refine Bo FI J4 rfl (qz FI rfl (qs Bc rfl (AI (by kernel_rfl) (Ao (Ar Ac rfl (qf BJ rfl (ql GN rfl (AX C9 rfl (qm rfl (Ae ?_))))))))))
  refine AA (L := Fl N p0) h (fun v6 => mk [(1, oD (.ptr 1 0)), (2, oD (.ptr 2 0)), (5, oD (.ptr 5 0)), (28, pD (.sl (p0.fb.map AL))), (29, iD ((p0.fb.length : Int))), (30, iD v6.2)] [(1, .box (Ak p0)), (2, .box [.pure (.nil0), .pure (.nil0), .pure (.nil0)]), (5, .box [.own 2006, .own 2007, .own 2008]), (2006, .vec 1 (v3.map Av)), (2007, .vec 1 (v4.map Av)), (2008, .vec 1 (v6.1.map ER))]) (fun v7 => mk [(2, oD (.ptr 2 0)), (5, oD (.ptr 5 0))] [(2, .box [.pure (.nil0), .pure (.nil0), .pure (.nil0)]), (5, .box [.own 2009, .own 2010, .own 2011]), (2009, .vec 1 (v3.map Av)), (2010, .vec 1 (v4.map Av)), (2011, .vec 1 (v7.map ER))]) (fun _ _ => rfl) (sm [(2006, 2004), (2007, 2005), (2008, 25)] _ _ rfl rfl) (fun j6 n6 v6 h => ?_) (fun v7 s h hs => ?_)
  ·unfold Fl at h
   refine Ar Ac rfl (AY rfl (Ae (Ao ?_)))
   refine Ba h rfl (fun h => ?_) fun h => ?_
   ·refine An ?_
    refine AR h (fun v9 => mk [(1, oD (.ptr 1 0)), (2, oD (.ptr 2 0)), (5, oD (.ptr 5 0)), (28, pD (.sl (p0.fb.map AL))), (29, iD ((p0.fb.length : Int))), (30, iD v6.2)] [(1, .box (Ak p0)), (2, .box [.pure (.nil0), .pure (.nil0), .pure (.nil0)]), (5, .box [.own 2012, .own 2013, .own 2014]), (2012, .vec 1 (v3.map Av)), (2013, .vec 1 (v4.map Av)), (2014, .vec 1 (v9.map ER))]) (fun j9 h => ?_) (fun v9 h => ?_)
    ·refine AJ (Ar Ac rfl (qm rfl ?_))
     refine Bb h fun v10 a10 b10 h => qi C9 Dx a10 (Af b10) rfl (qK HQ Dx rfl (qz JX rfl (qa rfl (qs Dx rfl (Ae (Ar Ac rfl (qL HQ Dx rfl ?_)))))))
     refine BR h fun v11 a11 h => AC [] (LD N v10 v11 a11) aL rfl (Ae ?_)
     refine Ba h rfl (fun h => ?_) fun h => ?_
     ·refine Ai Ac rfl (qf DO rfl (ql IT rfl (qm rfl (qf HD rfl (ql Bi rfl (qf En rfl (ql CV rfl ?_)))))))
      refine Bb h fun v13 a13 b13 h => qi AE Et a13 (Af b13) rfl (qk CV rfl ?_)
      refine GA h fun c14 h => Jy rfl c14 ?_
      refine Bb h fun v15 a15 b15 h => qI E0 HK a15 (Af b15) rfl ?_
      refine A7 rfl rfl rfl rfl (Af b15) rfl HK rfl (A0 rfl) (A4 ER v6.1 _ ((Dw .u8 1 v13))) ?_
      refine AI (by kernel_rfl) ?_
      exact sn [(2012, 2006), (2013, 2007), (2014, 2008)] h
     ·refine An ?_
      exact sn [(2012, 2006), (2013, 2007), (2014, 2008)] h
    ·refine Ai Ac rfl (AV rfl (qm rfl (Ae ?_)))
     exact sn [(2006, 2012), (2007, 2013), (2008, 2014)] h
   ·refine AT ?_
    exact sn [(2009, 2006), (2010, 2007), (2011, 2008)] h
  ·refine Aj hs (Ar Ac rfl (qL CM Bc rfl (qs Bc rfl (qe rfl ?_))))
   obtain rfl := sj h
   refine Aj (sm [(1000, 2009), (1001, 2010), (1002, 2011)] [(2, oD (.ptr 2 0)), (3, iD 0)] [(2, .box [.own 1000, .own 1001, .own 1002]), (1000, .vec 1 (v3.map Av)), (1001, .vec 1 (v4.map Av)), (1002, .vec 1 (v7.map ER))] rfl rfl) (Aw ?_)
   exact ⟨⟨[_, _], ⟨.cellN _ _ _ _ _ _ _ rfl rfl CM Bc rfl rfl (J8 rfl), ⟨.tmp _ _ rfl, tv⟩⟩, rfl⟩, ⟨rfl, rfl, rfl, tv⟩⟩
theorem K8 (N : Nat) (p0 : Ag) (p1 : Int) (r : Int) (h : Gr N p0 p1 = some r) : Ax Tryz.prog 130 [.e (.agg (AQ p0)), iD p1] [] (pD (.val (.int .u8 r))) := by
 unfold Gr at h
 refine Am (n := 27) (rs := [.tmp 4]) Tryz.func130 rfl rfl rfl (A0 rfl) (A0 rfl) rfl fun w0 S0 => ?_
 refine Ar Ac rfl (qb rfl (qa rfl (Ae (Ar Ac rfl (qf D0 rfl (ql Bi rfl (qm rfl ?_)))))))
 refine Bb h fun v1 a1 b1 h => qi AE Et a1 (Af b1) rfl (qk CV rfl ?_)
 refine GA h fun c2 h => Jy rfl c2 (qe rfl ?_)
 refine AR h (fun v3 => mk [(5, pD (.val (.int .u8 v3)))] []) (fun j3 h => ?_) (fun v3 h => ?_)
 ·refine Ar Ac rfl (qf Ca rfl (ql Bi rfl (qm rfl ?_)))
  refine Bb h fun v4 a4 b4 h => qi AE Et a4 (Af b4) rfl (qk CV rfl (Ej rfl (Ae ?_)))
  refine Ba h rfl (fun h => ?_) fun h => ?_
  ·refine Ai Ac rfl (qm rfl (qf Ca rfl (ql Bi rfl (qm rfl ?_))))
   refine Bb h fun v6 a6 b6 h => qi AE Et a6 (Af b6) rfl (qk CV rfl ?_)
   refine GA h fun c7 h => Jy rfl c7 (XM rfl (qe rfl ?_))
   exact sn [] h
  ·refine An ?_
   exact sn [] h
 ·refine Ar Ac rfl (qm rfl (qe rfl ?_))
  obtain rfl := sj h
  refine Aj (sm [] [(4, pD (.val (.int .u8 v3)))] [] rfl rfl) (Aw ?_)
  exact ⟨⟨[_], ⟨.tmp _ _ rfl, tv⟩, rfl⟩, tv⟩
theorem KG (N : Nat) (p0 : Ad) (p1 : Ag) (r : Int) (h : GM N p0 p1 = some r) : Ax Tryz.prog 91 [.e (.agg (Ak p0)), .e (.agg (AQ p1))] [] (iD r) := by
 unfold GM at h
 refine Am (n := 135) (rs := [.tmp 4]) Tryz.func91 rfl rfl rfl (A0 rfl) (A0 rfl) rfl fun w0 S0 => ?_
 refine Ar Ac rfl (qb rfl (qb rfl (qa rfl (Ae (Ao (Ar Ac rfl (qL Dv Ci rfl ?_)))))))
 refine BR h fun v1 a1 h => AC [] (EV N p0 v1 a1) WZ rfl (qa rfl (Ae (Ar Ac rfl (qm rfl (CF rfl (Ae ?_))))))
 refine Ba h rfl (fun h => ?_) fun h => ?_
 ·refine Ar Ac rfl (qm rfl (qe rfl ?_))
  obtain rfl := sj h
  refine Aj (sm [] [(4, iD v1)] [] rfl rfl) (Aw ?_)
  exact ⟨⟨[_], ⟨.tmp _ _ rfl, tv⟩, rfl⟩, tv⟩
 ·refine An (Ao ?_)
  refine AR h (fun v3 => mk [(2, oD (.ptr 2 0)), (3, oD (.ptr 3 0)), (41, bD v3)] [(2, .box (Ak p0)), (3, .box (AQ p1))]) (fun j3 h => ?_) (fun v3 h => ?_)
  ·refine Ai Ac rfl (qf D0 rfl (ql Bi rfl (AX AE rfl (qf BF rfl (ql Bi rfl (AX AE rfl (CF rfl (qm rfl ?_))))))))
   refine E7 24 h rfl (fun h => ?_) fun h => ?_
   ·refine qn rfl (qn rfl (qn rfl (qn rfl (qn rfl (qn rfl (qn rfl (qp rfl (qm rfl (qn rfl (qn rfl (qn rfl (qn rfl (qn rfl (qn rfl (qn rfl (qp rfl (Ae ?_)))))))))))))))))
    exact sn [] h
   ·refine qf Ca rfl (ql Bi rfl (AX AE rfl (qf BF rfl (ql Bi rfl (AX AE rfl (CF rfl (qp rfl (qm rfl ?_))))))))
    refine E7 33 h rfl (fun h => ?_) fun h => ?_
    ·refine qn rfl (qn rfl (qn rfl (qn rfl (qn rfl (qn rfl (qn rfl (qp rfl (Ae ?_))))))))
     exact sn [] h
    ·refine qf DO rfl (ql IT rfl (AX E0 rfl (qf BJ rfl (ql GN rfl (AX C9 rfl (CF rfl (qp rfl (Ae ?_))))))))
     exact sn [] h
  ·refine Ba h rfl (fun h => ?_) fun h => ?_
   ·refine Ar Ac rfl (qe rfl ?_)
    obtain rfl := sj h
    refine Aj (sm [] [(4, iD 6)] [] rfl rfl) (Aw ?_)
    exact ⟨⟨[_], ⟨.tmp _ _ rfl, tv⟩, rfl⟩, tv⟩
   ·refine An (Ao (Ar Ac rfl (qf BF rfl (ql Bi rfl (AX AE rfl (qm rfl (Ae ?_)))))))
    refine AA (L := Fm N p0 p1) h (fun v7 => mk [(2, oD (.ptr 2 0)), (3, oD (.ptr 3 0)), (43, pD (.sl (p0.fc.map Av))), (44, iD ((p0.fc.length : Int))), (45, iD v7)] [(2, .box (Ak p0)), (3, .box (AQ p1))]) (fun v8 => mk [(2, oD (.ptr 2 0)), (3, oD (.ptr 3 0))] [(2, .box (Ak p0)), (3, .box (AQ p1))]) (fun _ _ => rfl) (sm [] _ _ rfl rfl) (fun j7 n7 v7 h => ?_) (fun v8 s h hs => ?_)
    ·unfold Fm at h
     refine Ar Ac rfl (AY rfl (Ae (Ao ?_)))
     refine Ba h rfl (fun h => ?_) fun h => ?_
     ·refine An (Ao (AJ (Ar Ac rfl (qm rfl ?_))))
      refine Bb h fun v10 a10 b10 h => qi AE Et a10 (Af b10) rfl (qk CV rfl (qa rfl (qa rfl (Ae (Ao ?_)))))
      refine AR h (fun v11 => mk [(2, oD (.ptr 2 0)), (3, oD (.ptr 3 0)), (6, iD v7), (43, pD (.sl (p0.fc.map Av))), (44, iD ((p0.fc.length : Int))), (45, iD v7), (81, bD v11)] [(2, .box (Ak p0)), (3, .box (AQ p1))]) (fun j11 h => ?_) (fun v11 h => ?_)
      ·refine Ai Ac rfl (qf D0 rfl (ql Bi rfl (qm rfl ?_)))
       refine Bb h fun v12 a12 b12 h => qi AE Et a12 (Af b12) rfl (qk CV rfl (AY rfl (qm rfl ?_)))
       refine E7 56 h rfl (fun h => ?_) fun h => ?_
       ·refine qn rfl (qn rfl (qn rfl (qn rfl (qn rfl (qn rfl (qn rfl (qp rfl (qm rfl (qn rfl (qn rfl (qn rfl (qn rfl (qn rfl (qn rfl (qp rfl (qm rfl (qn rfl (qn rfl (qn rfl (qn rfl (qn rfl (qn rfl (qn rfl (qp rfl (Ae ?_)))))))))))))))))))))))))
        exact sn [] h
       ·refine qf D0 rfl (ql Bi rfl (qm rfl ?_))
        refine Bb h fun v14 a14 b14 h => qi AE Et a14 (Af b14) rfl (qk CV rfl (qm rfl (Ej rfl (qp rfl (qm rfl ?_)))))
        refine E7 65 h rfl (fun h => ?_) fun h => ?_
        ·refine qn rfl (qn rfl (qn rfl (qn rfl (qn rfl (qn rfl (qp rfl (qm rfl (qn rfl (qn rfl (qn rfl (qn rfl (qn rfl (qn rfl (qn rfl (qp rfl (Ae ?_))))))))))))))))
         exact sn [] h
        ·refine qf Ca rfl (ql Bi rfl (qm rfl ?_))
         refine Bb h fun v16 a16 b16 h => qi AE Et a16 (Af b16) rfl (qk CV rfl (AY rfl (qp rfl (qm rfl ?_))))
         refine E7 73 h rfl (fun h => ?_) fun h => ?_
         ·refine qn rfl (qn rfl (qn rfl (qn rfl (qn rfl (qn rfl (qn rfl (qp rfl (Ae ?_))))))))
          exact sn [] h
         ·refine qf Ca rfl (ql Bi rfl (qm rfl ?_))
          refine Bb h fun v18 a18 b18 h => qi AE Et a18 (Af b18) rfl (qk CV rfl (qm rfl (Ej rfl (qp rfl (Ae ?_)))))
          exact sn [] h
      ·refine Ba h rfl (fun h => ?_) fun h => ?_
       ·refine Ar Ac rfl (qe rfl ?_)
        obtain rfl := sj h
        refine Aj (sm [] [(4, iD 7)] [] rfl rfl) (Aw ?_)
        exact ⟨⟨[_], ⟨.tmp _ _ rfl, tv⟩, rfl⟩, tv⟩
       ·refine An (Ar Ac rfl (qf D0 rfl (ql Bi rfl (qm rfl ?_))))
        refine Bb h fun v20 a20 b20 h => qi AE Et a20 (Af b20) rfl (qk CV rfl (qf Ca rfl (ql Bi rfl (qm rfl ?_))))
        refine Bb h fun v21 a21 b21 h => qi AE Et a21 (Af b21) rfl (qk CV rfl (B9 rfl (AI (by kernel_rfl) ?_)))
        refine Ba h rfl (fun h => ?_) fun h => ?_
        ·refine Ar Ac rfl (qe rfl ?_)
         obtain rfl := sj h
         refine Aj (sm [] [(4, iD 1)] [] rfl rfl) (Aw ?_)
         exact ⟨⟨[_], ⟨.tmp _ _ rfl, tv⟩, rfl⟩, tv⟩
        ·refine An (Ai Ac rfl (AV rfl (qm rfl (Ae ?_))))
         exact sn [] h
     ·refine AT ?_
      exact sn [] h
    ·refine Aj hs (Ao (Ar Ac rfl (qf BJ rfl (ql GN rfl (AX C9 rfl (qm rfl (Ae ?_)))))))
     refine AA (L := EY N p0 p1) h (fun v23 => mk [(2, oD (.ptr 2 0)), (3, oD (.ptr 3 0)), (95, pD (.sl (p0.fb.map AL))), (96, iD ((p0.fb.length : Int))), (97, iD v23)] [(2, .box (Ak p0)), (3, .box (AQ p1))]) (fun v24 => mk [] []) (fun _ _ => rfl) (sm [] _ _ rfl rfl) (fun j23 n23 v23 h => ?_) (fun v24 s h hs => ?_)
     ·unfold EY at h
      refine Ar Ac rfl (AY rfl (Ae (Ao ?_)))
      refine Ba h rfl (fun h => ?_) fun h => ?_
      ·refine An (Ao (AJ (Ar Ac rfl (qm rfl ?_))))
       refine Bb h fun v26 a26 b26 h => qi C9 Dx a26 (Af b26) rfl (qK HQ Dx rfl (qz JX rfl (qa rfl (qs Dx rfl (Ae (Ar Ac rfl (qa rfl (qe rfl ?_))))))))
       refine AR h (fun v27 => mk [(2, oD (.ptr 2 0)), (3, oD (.ptr 3 0)), (8, iD v23), (10, pD (.val (.int .u8 v27.1))), (11, pD (.val (.int .u8 v27.2))), (95, pD (.sl (p0.fb.map AL))), (96, iD ((p0.fb.length : Int))), (97, iD v23)] [(2, .box (Ak p0)), (3, .box (AQ p1))]) (fun j27 h => ?_) (fun v27 h => ?_)
       ·refine Ar Ac rfl (qL HQ Dx rfl ?_)
        refine BR h fun v28 a28 h => AC [] (LD N v26 v28 a28) aL rfl (Ae ?_)
        refine Ba h rfl (fun h => ?_) fun h => ?_
        ·refine Ai Ac rfl (qL CM Bc rfl (qf En rfl (ql CV rfl ?_)))
         refine BR h fun v30 a30 h => AC [] (K8 N p1 v26.fg v30 a30) Yi rfl (qf BF rfl (ql Bi rfl (qf En rfl (ql CV rfl ?_))))
         refine Bb h fun v31 a31 b31 h => qi AE Et a31 (Af b31) rfl (qk CV rfl ?_)
         refine GA h fun c32 h => Jy rfl c32 (Dp rfl (qa rfl (qa rfl (AI (by kernel_rfl) ?_))))
         exact sn [] h
        ·refine An ?_
         exact sn [] h
       ·refine AR h (fun v33 => mk [(2, oD (.ptr 2 0)), (3, oD (.ptr 3 0)), (95, pD (.sl (p0.fb.map AL))), (96, iD ((p0.fb.length : Int))), (97, iD v23), (133, bD v33)] [(2, .box (Ak p0)), (3, .box (AQ p1))]) (fun j33 h => ?_) (fun v33 h => ?_)
        ·refine Ai Ac rfl (qm rfl (qf DO rfl (ql IT rfl (qm rfl ?_))))
         refine Bb h fun v34 a34 b34 h => qi E0 HK a34 (Af b34) rfl (qk Mj rfl (Kt rfl (CF rfl (qm rfl ?_))))
         refine E7 124 h rfl (fun h => ?_) fun h => ?_
         ·refine qn rfl (qn rfl (qn rfl (qn rfl (qn rfl (qn rfl (qn rfl (qn rfl (qp rfl (Ae ?_)))))))))
          exact sn [] h
         ·refine qf DO rfl (ql IT rfl (qm rfl ?_))
          refine Bb h fun v36 a36 b36 h => qi E0 HK a36 (Af b36) rfl (qk Mj rfl (qm rfl (Kt rfl (CF rfl (qp rfl (Ae ?_))))))
          exact sn [] h
        ·refine Ba h rfl (fun h => ?_) fun h => ?_
         ·refine Ar Ac rfl (qe rfl ?_)
          obtain rfl := sj h
          refine Aj (sm [] [(4, iD 1)] [] rfl rfl) (Aw ?_)
          exact ⟨⟨[_], ⟨.tmp _ _ rfl, tv⟩, rfl⟩, tv⟩
         ·refine An (Ai Ac rfl (AV rfl (qm rfl (Ae ?_))))
          exact sn [] h
      ·refine AT ?_
       exact sn [] h
     ·refine Aj hs (Ar Ac rfl (qe rfl ?_))
      obtain rfl := sj h
      refine Aj (sm [] [(4, iD 0)] [] rfl rfl) (Aw ?_)
      exact ⟨⟨[_], ⟨.tmp _ _ rfl, tv⟩, rfl⟩, tv⟩
theorem G9 (N : Nat) (p0 : List Int) (r : (List Int)) (h : Cr N p0 = some r) : Ax Tryz.prog 146 [pD (.sl (p0.map ER))] [(1, r.map ER)] (oD (.own 0)) := by
 unfold Cr at h
 refine Am (n := 8) (rs := [.tmp 2]) Tryz.func146 rfl rfl rfl (A0 rfl) (A0 rfl) rfl fun w0 S0 => ?_
 refine Ar Ac rfl (qa rfl (Ae (Ao (Ar Ac rfl (qm rfl ?_)))))
 refine Ox (.p rfl) rfl E0 ?_
 refine Ae ?_
 refine Oc rfl (fun c2 => ?_) ?_
 ·have c2 := List.map_eq_nil_iff.1 c2
  rw [c2] at h
  have h : (some (([] : List Int))) = some r := h
  refine Ar Ac rfl (qe rfl ?_)
  obtain rfl := sj h
  refine Aj ((Bf 2 2001 1 rfl rfl rfl).trans (sm [(1000, 2001)] [(2, oD (.own 1000))] [(1000, .vec 1 ((([] : List Int)).map ER))] rfl rfl)) (Aw ?_)
  exact ⟨⟨[_], ⟨.tmp _ _ rfl, tv⟩, rfl⟩, ⟨rfl, tv⟩⟩
 ·refine An (Ar Ac rfl (E5 E0 HK Sk rfl (qm rfl ?_)))
  refine GA h fun c1 h => HT (f := ER) E0 E0 HK TV Sk (fun _ => rfl) c1 rfl (qe rfl ?_)
  obtain rfl := sj h
  refine Aj (sm [(1000, 7)] [(2, oD (.own 1000))] [(1000, .vec 1 (((([] : List Int)) ++ p0).map ER))] rfl rfl) (Aw ?_)
  exact ⟨⟨[_], ⟨.tmp _ _ rfl, tv⟩, rfl⟩, ⟨rfl, tv⟩⟩
theorem Sp (N : Nat) (p0 : Ad) (p1 : Ag) (r : (List Ag) × Int) (h : Ih N p0 p1 = some r) : Ax Tryz.prog 123 [.e (.agg (Ak p0)), .e (.agg (AQ p1))] [(3, r.1.map F0)] (.tup [.one (.own 0), .one (iC r.2)]) := by
 unfold Ih at h
 refine Am (n := 75) (rs := [.tmp 4, .tmp 5]) Tryz.func123 rfl rfl rfl (A0 rfl) (A0 rfl) rfl fun w0 S0 => ?_
 refine Ar Ac rfl (qb rfl (qb rfl (qa rfl (qa rfl (Ae (Ao (Ar Ac rfl (qL Dv Ci rfl (qL CM Bc rfl ?_)))))))))
 refine BR h fun v1 a1 h => AC [] (KG N p0 p1 v1 a1) Zc rfl (qa rfl (Ae (Ar Ac rfl (qm rfl (CF rfl (Ae ?_))))))
 refine Ba h rfl (fun h => ?_) fun h => ?_
 ·refine Ar Ac rfl (qm rfl (qa rfl (qe rfl ?_)))
  obtain rfl := sj h
  refine Aj ((Bf 4 2001 3 rfl rfl rfl).trans (sm [(1000, 2001)] [(4, oD (.own 1000)), (5, iD v1)] [(1000, .vec 3 ((([] : List Ag)).map F0))] rfl rfl)) (Aw ?_)
  exact ⟨⟨[_, _], ⟨.tmp _ _ rfl, ⟨.tmp _ _ rfl, tv⟩⟩, rfl⟩, ⟨rfl, tv⟩⟩
 ·refine An (Ar Ac rfl (qa rfl (Ae (Ao (Ar Ac rfl (qf Ca rfl (ql Bi rfl (AX AE rfl (qm rfl (Ae ?_))))))))))
  refine AA (L := E1 N p1) h (fun v3 => mk [(3, oD (.ptr 3 0)), (7, oD (.own 2002)), (22, pD (.sl (p1.fa.map Av))), (23, iD ((p1.fa.length : Int))), (24, iD v3.2)] [(3, .box (AQ p1)), (2002, .vec 1 (v3.1.map Av))]) (fun v4 => mk [(3, oD (.ptr 3 0)), (7, oD (.own 2003))] [(3, .box (AQ p1)), (2003, .vec 1 (v4.map Av))]) (fun _ _ => rfl) ((Bf 7 2005 1 rfl rfl rfl).trans (sm [(2002, 2005)] _ _ rfl rfl)) (fun j3 n3 v3 h => ?_) (fun v4 s h hs => ?_)
  ·unfold E1 at h
   refine Ar Ac rfl (AY rfl (Ae (Ao ?_)))
   refine Ba h rfl (fun h => ?_) fun h => ?_
   ·refine An ?_
    refine AR h (fun v6 => mk [(3, oD (.ptr 3 0)), (7, oD (.own 2004)), (22, pD (.sl (p1.fa.map Av))), (23, iD ((p1.fa.length : Int))), (24, iD v3.2)] [(3, .box (AQ p1)), (2004, .vec 1 (v6.map Av))]) (fun j6 h => ?_) (fun v6 h => ?_)
    ·refine AJ (Ar Ac rfl (qm rfl ?_))
     refine Bb h fun v7 a7 b7 h => qi AE Et a7 (Af b7) rfl (qk CV rfl (qa rfl (qa rfl (Ae (Ar Ac rfl (qm rfl (Ej rfl (Ae ?_))))))))
     refine Ba h rfl (fun h => ?_) fun h => ?_
     ·refine Ai Ac rfl (qm rfl (qm rfl (E5 AE Et Lt rfl ?_)))
      refine GA h fun c9 h => Ew (f := Av) AE AE Et Ms Lt c9 rfl (qe rfl ?_)
      exact sn [(2004, 34)] h
     ·refine An ?_
      exact sn [(2004, 2002)] h
    ·refine Ai Ac rfl (AV rfl (qm rfl (Ae ?_)))
     exact sn [(2002, 2004)] h
   ·refine AT ?_
    exact sn [(2003, 2002)] h
  ·refine Aj hs (Ar Ac rfl (qa rfl (Ae (Ao (Ar Ac rfl (qm rfl (D4 AE rfl ?_)))))))
   refine GA h fun c10 h => Jy rfl c10 (qm rfl (Ae ?_))
   refine AA (L := DZ N p1 v4) h (fun v11 => mk [(3, oD (.ptr 3 0)), (7, oD (.own 2006)), (10, oD (.own 2007)), (38, iD ((Dw .i64 1 ((v4.length : Int))))), (39, iD v11.2)] [(3, .box (AQ p1)), (2006, .vec 1 (v4.map Av)), (2007, .vec 3 (v11.1.map F0))]) (fun v12 => mk [(10, oD (.own 2008))] [(2008, .vec 3 (v12.map F0))]) (fun _ _ => rfl) ((Bf 10 2027 3 rfl rfl rfl).trans (sm [(2006, 2003), (2007, 2027)] _ _ rfl rfl)) (fun j11 n11 v11 h => ?_) (fun v12 s h hs => ?_)
   ·unfold DZ at h
    refine Ar Ac rfl (AY rfl (Ae (Ao ?_)))
    refine Ba h rfl (fun h => ?_) fun h => ?_
    ·refine An (Ao (AJ (Ar Ac rfl (qm rfl (qa rfl (Ae (Ar Ac rfl (qf D0 rfl (ql Bi rfl ?_)))))))))
     refine BR h fun v14 a14 h => AC [2009] (C2 N p1.fd v14 a14) UI rfl (qf Ca rfl (ql Bi rfl ?_))
     refine BR h fun v15 a15 h => AC [2010] (C2 N p1.fa v15 a15) UI rfl (qf DO rfl (ql IT rfl ?_))
     refine BR h fun v16 a16 h => AC [2011] (G9 N p1.fe v16 a16) Z6 rfl (Bo FI J4 rfl (qz FI rfl (qs Bc rfl (AI (by kernel_rfl) (Ao (Ar Ac rfl (qm rfl (D4 AE rfl (qm rfl (Ae ?_))))))))))
     refine AA (L := D2 N v4 v11) h (fun v17 => mk [(3, oD (.ptr 3 0)), (7, oD (.own 2015)), (10, oD (.own 2016)), (11, iD v11.2), (12, oD (.ptr 12 0)), (38, iD ((Dw .i64 1 ((v4.length : Int))))), (39, iD v11.2), (52, oD (.own 2015)), (53, iD ((v4.length : Int))), (54, iD v17.2)] [(3, .box (AQ p1)), (12, .box [.own 2012, .own 2013, .own 2014]), (2012, .vec 1 (v14.map Av)), (2013, .vec 1 (v17.1.map Av)), (2014, .vec 1 (v16.map ER)), (2015, .vec 1 (v4.map Av)), (2016, .vec 3 (v11.1.map F0))]) (fun v18 => mk [(3, oD (.ptr 3 0)), (7, oD (.own 2020)), (10, oD (.own 2021)), (12, oD (.ptr 12 0)), (38, iD ((Dw .i64 1 ((v4.length : Int))))), (39, iD v11.2)] [(3, .box (AQ p1)), (12, .box [.own 2017, .own 2018, .own 2019]), (2017, .vec 1 (v14.map Av)), (2018, .vec 1 (v18.map Av)), (2019, .vec 1 (v16.map ER)), (2020, .vec 1 (v4.map Av)), (2021, .vec 3 (v11.1.map F0))]) (fun _ _ => rfl) (sm [(2012, 2009), (2013, 2010), (2014, 2011), (2015, 2006), (2016, 2007)] _ _ rfl rfl) (fun j17 n17 v17 h => ?_) (fun v18 s h hs => ?_)
     ·unfold D2 at h
      refine Ar Ac rfl (AY rfl (Ae (Ao ?_)))
      refine Ba h rfl (fun h => ?_) fun h => ?_
      ·refine An ?_
       refine AR h (fun v20 => mk [(3, oD (.ptr 3 0)), (7, oD (.own 2025)), (10, oD (.own 2026)), (11, iD v11.2), (12, oD (.ptr 12 0)), (38, iD ((Dw .i64 1 ((v4.length : Int))))), (39, iD v11.2), (52, oD (.own 2025)), (53, iD ((v4.length : Int))), (54, iD v17.2)] [(3, .box (AQ p1)), (12, .box [.own 2022, .own 2023, .own 2024]), (2022, .vec 1 (v14.map Av)), (2023, .vec 1 (v20.map Av)), (2024, .vec 1 (v16.map ER)), (2025, .vec 1 (v4.map Av)), (2026, .vec 3 (v11.1.map F0))]) (fun j20 h => ?_) (fun v20 h => ?_)
       ·refine AJ (Ar Ac rfl (qm rfl ?_))
        refine Bb h fun v21 a21 b21 h => qI AE Et a21 (Af b21) rfl (qj CV (Af b21) rfl (qa rfl (qa rfl (Ae (Ar Ac rfl (qm rfl (qm rfl ?_)))))))
        refine GA h fun c22 h => II rfl c22 (M5 rfl (B9 rfl (Ae ?_)))
        refine Ba h rfl (fun h => ?_) fun h => ?_
        ·refine Ai Ac rfl (qf Ca rfl (ql Bi rfl (qm rfl ?_)))
         refine Bb h fun v24 a24 b24 h => qI AE Et a24 (Af b24) rfl ?_
         refine A7 rfl rfl rfl rfl (Af b24) rfl Et rfl (A0 rfl) (A4 Av v17.1 _ ((-1))) ?_
         refine Ae ?_
         exact sn [(2022, 2012), (2023, 2013), (2024, 2014), (2025, 2015), (2026, 2016)] h
        ·refine An ?_
         exact sn [(2022, 2012), (2023, 2013), (2024, 2014), (2025, 2015), (2026, 2016)] h
       ·refine Ai Ac rfl (AV rfl (qm rfl (Ae ?_)))
        exact sn [(2012, 2022), (2013, 2023), (2014, 2024), (2015, 2025), (2016, 2026)] h
      ·refine AT ?_
       exact sn [(2017, 2012), (2018, 2013), (2019, 2014), (2020, 2015), (2021, 2016)] h
     ·refine Aj hs (Ai Ac rfl (qm rfl (qL CM Bc rfl (EF (BD 2017 _ _ rfl rfl) (EF (BD 2018 _ _ rfl rfl) (EF (BD 2019 _ _ rfl rfl) (E5 K2 Bc FI rfl ?_)))))))
      refine GA h fun c25 h => Ew (f := F0) K2 K2 Bc Z3 FI c25 rfl (qa rfl (Ae (Ai Ac rfl (AV rfl (qm rfl (Ae ?_))))))
      exact sn [(2006, 2020), (2007, 72)] h
    ·refine AT ?_
     exact sn [(2008, 2007)] h
   ·refine Aj hs (Ar Ac rfl (qm rfl (qa rfl (qe rfl ?_))))
    obtain rfl := sj h
    refine Aj (sm [(1000, 2008)] [(4, oD (.own 1000)), (5, iD 0)] [(1000, .vec 3 (v12.map F0))] rfl rfl) (Aw ?_)
    exact ⟨⟨[_, _], ⟨.tmp _ _ rfl, ⟨.tmp _ _ rfl, tv⟩⟩, rfl⟩, ⟨rfl, tv⟩⟩
theorem Py (N : Nat) (p0 : Ad) (p1 : Ag) (r : (List Aa)) (h : G8 N p0 p1 = some r) : Ax Tryz.prog 124 [.e (.agg (Ak p0)), .e (.agg (AQ p1))] [(3, r.map Ab)] (oD (.own 0)) := by
 unfold G8 at h
 refine Am (n := 98) (rs := [.tmp 4]) Tryz.func124 rfl rfl rfl (A0 rfl) (A0 rfl) rfl fun w0 S0 => ?_
 refine Ar Ac rfl (qb rfl (qb rfl (qa rfl (Ae (Ar Ac rfl (qa rfl (Ae (Ao (Ar Ac rfl (qf BJ rfl (ql GN rfl (AX C9 rfl (qm rfl (Ae ?_))))))))))))))
 refine AA (L := Ex N p0 p1) h (fun v1 => mk [(3, oD (.ptr 3 0)), (5, oD (.own 2001)), (15, pD (.sl (p0.fb.map AL))), (16, iD ((p0.fb.length : Int))), (17, iD v1.2)] [(3, .box (AQ p1)), (2001, .vec 3 (v1.1.map Ab))]) (fun v2 => mk [(5, oD (.own 2002))] [(2002, .vec 3 (v2.map Ab))]) (fun _ _ => rfl) ((Bf 5 2013 3 rfl rfl rfl).trans (sm [(2001, 2013)] _ _ rfl rfl)) (fun j1 n1 v1 h => ?_) (fun v2 s h hs => ?_)
 ·unfold Ex at h
  refine Ar Ac rfl (AY rfl (Ae (Ao ?_)))
  refine Ba h rfl (fun h => ?_) fun h => ?_
  ·refine An (Ao (AJ (Ar Ac rfl (qm rfl ?_))))
   refine Bb h fun v4 a4 b4 h => qi C9 Dx a4 (Af b4) rfl (qK HQ Dx rfl (qz JX rfl (qa rfl (qs Dx rfl (Ae (Ar Ac rfl (qL CM Bc rfl (qf En rfl (ql CV rfl ?_)))))))))
   refine BR h fun v5 a5 h => AC [] (K8 N p1 v4.fg v5 a5) Yi rfl (qL CM Bc rfl (qf JT rfl (ql CV rfl ?_)))
   refine BR h fun v6 a6 h => AC [] (K8 N p1 v4.fk v6 a6) Yi rfl (qa rfl (qa rfl (AI (by kernel_rfl) ?_)))
   refine AR h (fun v7 => mk [(3, oD (.ptr 3 0)), (5, oD (.own 2003)), (6, iD v1.2), (7, oD (.ptr 7 0)), (8, pD (.val (.int .u8 v7))), (9, pD (.val (.int .u8 v6))), (15, pD (.sl (p0.fb.map AL))), (16, iD ((p0.fb.length : Int))), (17, iD v1.2)] [(3, .box (AQ p1)), (7, .box (Bt v4)), (2003, .vec 3 (v1.1.map Ab))]) (fun j7 h => ?_) (fun v7 h => ?_)
   ·refine Ar Ac rfl (qL HQ Dx rfl ?_)
    refine BR h fun v8 a8 h => AC [] (LD N v4 v8 a8) aL rfl (Ae ?_)
    refine Ba h rfl (fun h => ?_) fun h => ?_
    ·refine Ai Ac rfl (qf DO rfl (ql IT rfl (qm rfl ?_)))
     refine Bb h fun v10 a10 b10 h => qi E0 HK a10 (Af b10) rfl (qk Mj rfl (qe rfl ?_))
     exact sn [(2003, 2001)] h
    ·refine An ?_
     exact sn [(2003, 2001)] h
   ·refine Ar Ac rfl (qf Fq rfl (ql HL rfl (AX D7 rfl (qm rfl (Ae ?_)))))
    refine AA (L := C6 N v1 v4 v6 v7) h (fun v11 => mk [(3, oD (.ptr 3 0)), (5, oD (.own 2004)), (6, iD v1.2), (7, oD (.ptr 7 0)), (8, pD (.val (.int .u8 v7))), (9, pD (.val (.int .u8 v6))), (15, pD (.sl (p0.fb.map AL))), (16, iD ((p0.fb.length : Int))), (17, iD v1.2), (39, iD ((v4.fi.length : Int))), (40, iD v11.2)] [(3, .box (AQ p1)), (7, .box (Bt v4)), (2004, .vec 3 (v11.1.map Ab))]) (fun v12 => mk [(3, oD (.ptr 3 0)), (5, oD (.own 2005)), (15, pD (.sl (p0.fb.map AL))), (16, iD ((p0.fb.length : Int))), (17, iD v1.2)] [(3, .box (AQ p1)), (2005, .vec 3 (v12.map Ab))]) (fun _ _ => rfl) (sm [(2004, 2003)] _ _ rfl rfl) (fun j11 n11 v11 h => ?_) (fun v12 s h hs => ?_)
    ·unfold C6 at h
     refine Ar Ac rfl (AY rfl (Ae (Ao ?_)))
     refine Ba h rfl (fun h => ?_) fun h => ?_
     ·refine An ?_
      refine AR h (fun v14 => mk [(3, oD (.ptr 3 0)), (5, oD (.own 2006)), (6, iD v1.2), (7, oD (.ptr 7 0)), (8, pD (.val (.int .u8 v7))), (9, pD (.val (.int .u8 v6))), (15, pD (.sl (p0.fb.map AL))), (16, iD ((p0.fb.length : Int))), (17, iD v1.2), (39, iD ((v4.fi.length : Int))), (40, iD v11.2)] [(3, .box (AQ p1)), (7, .box (Bt v4)), (2006, .vec 3 (v14.map Ab))]) (fun j14 h => ?_) (fun v14 h => ?_)
      ·refine AJ (Ar Ac rfl (qm rfl (qa rfl (Ae (Ao (Ar Ac rfl (qm rfl (qm rfl ?_))))))))
       refine GA h fun c15 h => II rfl c15 (M5 rfl (B9 rfl (Ae ?_)))
       refine Ba h rfl (fun h => ?_) fun h => ?_
       ·refine AT ?_
        exact sn [(2006, 2004)] h
       ·refine An (Ar Ac rfl (qa rfl (Ae (Ao (Ar Ac rfl (qf Fq rfl (ql HL rfl (qm rfl ?_))))))))
        refine Bb h fun v17 a17 b17 h => qi D7 IS a17 (Af b17) rfl (qk Me rfl (AX E6 rfl (qm rfl (Ae ?_))))
        refine AA (L := Cy N v1 v4 v6 v11 v17) h (fun v18 => mk [(3, oD (.ptr 3 0)), (5, oD (.own 2007)), (6, iD v1.2), (7, oD (.ptr 7 0)), (8, pD (.val (.int .u8 v7))), (9, pD (.val (.int .u8 v6))), (10, iD v11.2), (11, bD v18.2.1), (15, pD (.sl (p0.fb.map AL))), (16, iD ((p0.fb.length : Int))), (17, iD v1.2), (39, iD ((v4.fi.length : Int))), (40, iD v11.2), (52, pD (.sl (v17.map eB))), (53, iD ((v17.length : Int))), (54, iD v18.2.2)] [(3, .box (AQ p1)), (7, .box (Bt v4)), (2007, .vec 3 (v18.1.map Ab))]) (fun v19 => mk [(3, oD (.ptr 3 0)), (5, oD (.own 2008)), (6, iD v1.2), (7, oD (.ptr 7 0)), (8, pD (.val (.int .u8 v7))), (9, pD (.val (.int .u8 v6))), (10, iD v11.2), (11, bD v19.2), (15, pD (.sl (p0.fb.map AL))), (16, iD ((p0.fb.length : Int))), (17, iD v1.2), (39, iD ((v4.fi.length : Int))), (40, iD v11.2)] [(3, .box (AQ p1)), (7, .box (Bt v4)), (2008, .vec 3 (v19.1.map Ab))]) (fun _ _ => rfl) (sm [(2007, 2004)] _ _ rfl rfl) (fun j18 n18 v18 h => ?_) (fun v19 s h hs => ?_)
        ·unfold Cy at h
         refine Ar Ac rfl (AY rfl (Ae (Ao ?_)))
         refine Ba h rfl (fun h => ?_) fun h => ?_
         ·refine An ?_
          refine AR h (fun v21 => mk [(3, oD (.ptr 3 0)), (5, oD (.own 2009)), (6, iD v1.2), (7, oD (.ptr 7 0)), (8, pD (.val (.int .u8 v7))), (9, pD (.val (.int .u8 v6))), (10, iD v11.2), (11, bD v21.2), (15, pD (.sl (p0.fb.map AL))), (16, iD ((p0.fb.length : Int))), (17, iD v1.2), (39, iD ((v4.fi.length : Int))), (40, iD v11.2), (52, pD (.sl (v17.map eB))), (53, iD ((v17.length : Int))), (54, iD v18.2.2)] [(3, .box (AQ p1)), (7, .box (Bt v4)), (2009, .vec 3 (v21.1.map Ab))]) (fun j21 h => ?_) (fun v21 h => ?_)
          ·refine AJ (Ar Ac rfl (qm rfl ?_))
           refine Bb h fun v22 a22 b22 h => qi E6 Nh a22 (Af b22) rfl (qk TE rfl (qa rfl (qa rfl (Ae (Ao (Ar Ac rfl (qm rfl (qm rfl ?_))))))))
           refine GA h fun c23 h => II rfl c23 (M5 rfl (B9 rfl (Ae ?_)))
           refine Ba h rfl (fun h => ?_) fun h => ?_
           ·refine AT ?_
            exact sn [(2009, 2007)] h
           ·refine An ?_
            refine AR h (fun v25 => mk [(3, oD (.ptr 3 0)), (5, oD (.own 2010)), (6, iD v1.2), (7, oD (.ptr 7 0)), (8, pD (.val (.int .u8 v7))), (9, pD (.val (.int .u8 v6))), (10, iD v11.2), (11, bD v25), (12, iD v18.2.2), (13, bD v22), (15, pD (.sl (p0.fb.map AL))), (16, iD ((p0.fb.length : Int))), (17, iD v1.2), (39, iD ((v4.fi.length : Int))), (40, iD v11.2), (52, pD (.sl (v17.map eB))), (53, iD ((v17.length : Int))), (54, iD v18.2.2)] [(3, .box (AQ p1)), (7, .box (Bt v4)), (2010, .vec 3 (v18.1.map Ab))]) (fun j25 h => ?_) (fun v25 h => ?_)
            ·refine Ai Ac rfl (qm rfl (qm rfl ?_))
             refine E7 65 h rfl (fun h => ?_) fun h => ?_
             ·refine qn rfl (qp rfl (qe rfl ?_))
              exact sn [(2010, 2007)] h
             ·refine qm rfl (qp rfl (qe rfl ?_))
              exact sn [(2010, 2007)] h
            ·refine AR h (fun v27 => mk [(3, oD (.ptr 3 0)), (5, oD (.own 2011)), (6, iD v1.2), (7, oD (.ptr 7 0)), (8, pD (.val (.int .u8 v7))), (9, pD (.val (.int .u8 v6))), (10, iD v11.2), (11, bD v25), (12, iD v18.2.2), (15, pD (.sl (p0.fb.map AL))), (16, iD ((p0.fb.length : Int))), (17, iD v1.2), (39, iD ((v4.fi.length : Int))), (40, iD v11.2), (52, pD (.sl (v17.map eB))), (53, iD ((v17.length : Int))), (54, iD v18.2.2), (74, bD v27)] [(3, .box (AQ p1)), (7, .box (Bt v4)), (2011, .vec 3 (v18.1.map Ab))]) (fun j27 h => ?_) (fun v27 h => ?_)
             ·refine Ai Ac rfl (qm rfl (CO rfl (qm rfl ?_)))
              refine E7 70 h rfl (fun h => ?_) fun h => ?_
              ·refine qf KP rfl (ql TE rfl (CO rfl (qp rfl (Ae ?_))))
               exact sn [(2011, 2010)] h
              ·refine qn rfl (qn rfl (qn rfl (qp rfl (Ae ?_))))
               exact sn [(2011, 2010)] h
             ·refine Ba h rfl (fun h => ?_) fun h => ?_
              ·refine Ai Ac rfl (qm rfl (qm rfl (qm rfl (qm rfl (Bo HA Rn rfl (E5 AP AO HA rfl ?_))))))
               refine GA h fun c30 h => Ew (f := Ab) AP AP AO NZ HA c30 rfl (qe rfl ?_)
               exact sn [(2009, 81)] h
              ·refine An ?_
               exact sn [(2009, 2011)] h
          ·refine Ai Ac rfl (AV rfl (qm rfl (Ae ?_)))
           exact sn [(2007, 2009)] h
         ·refine AT ?_
          exact sn [(2008, 2007)] h
        ·refine Aj hs ?_
         refine AR h (fun v31 => mk [(3, oD (.ptr 3 0)), (5, oD (.own 2012)), (6, iD v1.2), (7, oD (.ptr 7 0)), (8, pD (.val (.int .u8 v7))), (9, pD (.val (.int .u8 v6))), (10, iD v11.2), (15, pD (.sl (p0.fb.map AL))), (16, iD ((p0.fb.length : Int))), (17, iD v1.2), (39, iD ((v4.fi.length : Int))), (40, iD v11.2), (88, bD v31)] [(3, .box (AQ p1)), (7, .box (Bt v4)), (2012, .vec 3 (v19.1.map Ab))]) (fun j31 h => ?_) (fun v31 h => ?_)
         ·refine Ai Ac rfl (qf KP rfl (ql TE rfl (qm rfl ?_)))
          refine E7 85 h rfl (fun h => ?_) fun h => ?_
          ·refine qm rfl (CO rfl (qp rfl (Ae ?_)))
           exact sn [(2012, 2008)] h
          ·refine qn rfl (qn rfl (qp rfl (Ae ?_)))
           exact sn [(2012, 2008)] h
         ·refine Ba h rfl (fun h => ?_) fun h => ?_
          ·refine Ai Ac rfl (qm rfl (qm rfl (qm rfl (Bo HA Rn rfl (E5 AP AO HA rfl ?_)))))
           refine GA h fun c34 h => Ew (f := Ab) AP AP AO NZ HA c34 rfl (qe rfl ?_)
           exact sn [(2006, 94)] h
          ·refine An ?_
           exact sn [(2006, 2012)] h
      ·refine Ai Ac rfl (AV rfl (qm rfl (Ae ?_)))
       exact sn [(2004, 2006)] h
     ·refine AT ?_
      exact sn [(2005, 2004)] h
    ·refine Aj hs (Ai Ac rfl (AV rfl (qm rfl (Ae ?_))))
     exact sn [(2001, 2005)] h
  ·refine AT ?_
   exact sn [(2002, 2001)] h
 ·refine Aj hs (Ar Ac rfl (qm rfl (qe rfl ?_)))
  obtain rfl := sj h
  refine Aj (sm [(1000, 2002)] [(4, oD (.own 1000))] [(1000, .vec 3 (v2.map Ab))] rfl rfl) (Aw ?_)
  exact ⟨⟨[_], ⟨.tmp _ _ rfl, tv⟩, rfl⟩, ⟨rfl, tv⟩⟩
theorem TZ (N : Nat) (p0 : Ad) (p1 : Ag) (r : Ag × Aa × Int) (h : IU N p0 p1 = some r) : Ax Tryz.prog 87 [.e (.agg (Ak p0)), .e (.agg (AQ p1))] [] (.tup [.agg (AQ r.1), .agg (FG r.2.1), .one (iC r.2.2)]) := by
 unfold IU at h
 refine Am (n := 42) (rs := [.cell 4 64, .cell 5 45, .tmp 6]) Tryz.func87 rfl rfl rfl (A0 rfl) (A0 rfl) rfl fun w0 S0 => ?_
 refine Ar Ac rfl (qb rfl (qb rfl (qz FI rfl (qz HA rfl (qa rfl (Ae (Ar Ac rfl (qL Dv Ci rfl (qL CM Bc rfl ?_)))))))))
 refine BR h fun v1 a1 h => AC [2001] (Sp N p0 p1 v1 a1) ca rfl (qm rfl (qx rfl (qx rfl (qa rfl (qa rfl (Ae (Ao (Ar Ac rfl (qm rfl (CF rfl (Ae ?_)))))))))))
 refine Ba h rfl (fun h => ?_) fun h => ?_
 ·refine Ar Ac rfl (Bo FI J4 rfl (Bo HA Rn rfl (qm rfl (qs Bc rfl (qs AO rfl (qe rfl ?_))))))
  obtain rfl := sj h
  refine Aj ((MP 4 _ rfl).trans (sm [] [(4, oD (.ptr 4 0)), (5, oD (.ptr 5 0)), (6, iD v1.2)] [(4, .box [sC ((([] : List Int)).map Av), sC ((([] : List Int)).map Av), sC ((([] : List Int)).map ER)]), (5, .box [iC 0, iC 0, iC 0])] rfl rfl)) (Aw ?_)
  exact ⟨⟨[_, _, _], ⟨.cellN _ _ _ _ _ _ _ rfl rfl CM Bc rfl rfl (J8 rfl), ⟨.cellN _ _ _ _ _ _ _ rfl rfl Dk AO rfl rfl (J8 rfl), ⟨.tmp _ _ rfl, tv⟩⟩⟩, rfl⟩, tv⟩
 ·refine An (Ao (Ar Ac rfl (qm rfl (D4 K2 rfl (qm rfl (Ae ?_))))))
  refine AA (L := F6 N p0 v1) h (fun v3 => mk [(2, oD (.ptr 2 0)), (4, oD (.ptr 4 0)), (5, oD (.ptr 5 0)), (23, oD (.own 2002)), (24, iD ((v1.1.length : Int))), (25, iD v3)] [(2, .box (Ak p0)), (4, .box [.pure (.nil0), .pure (.nil0), .pure (.nil0)]), (5, .box [iC 0, iC 0, iC 0]), (2002, .vec 3 (v1.1.map F0))]) (fun v4 => mk [(4, oD (.ptr 4 0)), (5, oD (.ptr 5 0))] [(4, .box [.pure (.nil0), .pure (.nil0), .pure (.nil0)]), (5, .box [iC 0, iC 0, iC 0])]) (fun _ _ => rfl) (sm [(2002, 2001)] _ _ rfl rfl) (fun j3 n3 v3 h => ?_) (fun v4 s h hs => ?_)
  ·unfold F6 at h
   refine Ar Ac rfl (AY rfl (Ae (Ao ?_)))
   refine Ba h rfl (fun h => ?_) fun h => ?_
   ·refine An (Ao (AJ (Ar Ac rfl ?_)))
    refine Bb h fun v6 a6 b6 h => qI K2 Bc a6 (Af b6) rfl (qJ CM Bc (Af b6) rfl (qz FI rfl (qs Bc rfl (Ae (Ar Ac rfl (qL Dv Ci rfl (qL CM Bc rfl ?_)))))))
    refine BR h fun v7 a7 h => AC [2003] (Py N p0 v6 v7 a7) ct rfl (qa rfl (Ae (Ar Ac rfl (qm rfl (D4 AP rfl (GB rfl (Ae ?_)))))))
    refine Ba h rfl (fun h => ?_) fun h => ?_
    ·refine Ar Ac rfl (qL CM Bc rfl (qm rfl ?_))
     refine Bb h fun v9 a9 b9 h => qI AP AO a9 (Af b9) rfl (qJ Dk AO (Af b9) rfl (qs Bc rfl (qs AO rfl (qa rfl (AI (by kernel_rfl) ?_)))))
     obtain rfl := sj h
     refine Aj (sm [] [(4, oD (.ptr 4 0)), (5, oD (.ptr 5 0)), (6, iD 0)] [(4, .box (AQ v6)), (5, .box (FG v9))] rfl rfl) (Aw ?_)
     exact ⟨⟨[_, _, _], ⟨.cellN _ _ _ _ _ _ _ rfl rfl CM Bc rfl rfl (J8 rfl), ⟨.cellN _ _ _ _ _ _ _ rfl rfl Dk AO rfl rfl (J8 rfl), ⟨.tmp _ _ rfl, tv⟩⟩⟩, rfl⟩, tv⟩
    ·refine An (Ai Ac rfl (AV rfl (qm rfl (Ae ?_))))
     exact sn [] h
   ·refine AT ?_
    exact sn [] h
  ·refine Aj hs (Ar Ac rfl (Bo FI J4 rfl (Bo HA Rn rfl (qs Bc rfl (qs AO rfl (qe rfl ?_))))))
   obtain rfl := sj h
   refine Aj ((MP 4 _ rfl).trans (sm [] [(4, oD (.ptr 4 0)), (5, oD (.ptr 5 0)), (6, iD 15)] [(4, .box [sC ((([] : List Int)).map Av), sC ((([] : List Int)).map Av), sC ((([] : List Int)).map ER)]), (5, .box [iC 0, iC 0, iC 0])] rfl rfl)) (Aw ?_)
   exact ⟨⟨[_, _, _], ⟨.cellN _ _ _ _ _ _ _ rfl rfl CM Bc rfl rfl (J8 rfl), ⟨.cellN _ _ _ _ _ _ _ rfl rfl Dk AO rfl rfl (J8 rfl), ⟨.tmp _ _ rfl, tv⟩⟩⟩, rfl⟩, tv⟩
theorem Oa (N : Nat) (p0 : Ad) (p1 : Ag) (r : Bool × Int) (h : Hw N p0 p1 = some r) : Ax Tryz.prog 63 [.e (.agg (Ak p0)), .e (.agg (AQ p1))] [] (.tup [.one (.pure (.val (.bool r.1))), .one (iC r.2)]) := by
 unfold Hw at h
 refine Am (n := 22) (rs := [.tmp 4, .tmp 5]) Tryz.func63 rfl rfl rfl (A0 rfl) (A0 rfl) rfl fun w0 S0 => ?_
 refine Ar Ac rfl (qb rfl (qb rfl (qa rfl (qa rfl (Ae (Ar Ac rfl (qL Dv Ci rfl (qL CM Bc rfl ?_))))))))
 refine BR h fun v1 a1 h => AC [] (TZ N p0 p1 v1 a1) ef rfl (qm rfl (qx rfl (qx rfl (qx rfl (qz FI rfl (qz HA rfl (qs Bc rfl (qs AO rfl (qa rfl (Ae (Ar Ac rfl (qm rfl (Ae (AJ (Ar Ac rfl (B9 rfl (qe rfl ?_)))))))))))))))))
 refine Ba h rfl (fun h => ?_) fun h => ?_
 ·refine Ar Ac rfl (qa rfl (qe rfl ?_))
  obtain rfl := sj h
  refine Aj (sm [] [(4, bD false), (5, iD 0)] [] rfl rfl) (Aw ?_)
  exact ⟨⟨[_, _], ⟨.tmp _ _ rfl, ⟨.tmp _ _ rfl, tv⟩⟩, rfl⟩, tv⟩
 ·refine Ar Ac rfl (B9 rfl (qe rfl ?_))
  refine Ba h rfl (fun h => ?_) fun h => ?_
  ·refine Ar Ac rfl (qa rfl (qe rfl ?_))
   obtain rfl := sj h
   refine Aj (sm [] [(4, bD true), (5, iD 0)] [] rfl rfl) (Aw ?_)
   exact ⟨⟨[_, _], ⟨.tmp _ _ rfl, ⟨.tmp _ _ rfl, tv⟩⟩, rfl⟩, tv⟩
  ·refine Ar Ac rfl (qm rfl (qa rfl (qe rfl ?_)))
   obtain rfl := sj h
   refine Aj (sm [] [(4, bD false), (5, iD v1.2.2)] [] rfl rfl) (Aw ?_)
   exact ⟨⟨[_, _], ⟨.tmp _ _ rfl, ⟨.tmp _ _ rfl, tv⟩⟩, rfl⟩, tv⟩
theorem PR (N : Nat) (p0 : Ag) (r : ByteArray) (h : IP N p0 = some r) : Ax Tryz.prog 88 [.e (.agg (AQ p0))] [] (pD (.val (.string r))) := by
 unfold IP at h
 refine Am (n := 53) (rs := [.tmp 2]) Tryz.func88 rfl rfl rfl (A0 rfl) (A0 rfl) rfl fun w0 S0 => ?_
 refine Ar Ac rfl (qb rfl (qa rfl (Ae (Ar Ac rfl (qf D0 rfl (ql Bi rfl (AX AE rfl (Kj rfl (qf DO rfl (ql IT rfl (AX E0 rfl (AV rfl ?_))))))))))))
 refine GA h fun c1 h => Mo (.p rfl) rfl rfl rfl LT aO aI (A0 rfl) dB rfl rfl rfl c1.1 c1.2.1 c1.2.2 (Sy ER _ ((0 : Int))) ?_
 refine qa rfl (Ae (Ao (Ar Ac rfl (qf D0 rfl (ql Bi rfl (AX AE rfl (qm rfl (Ae ?_))))))))
 refine AA (L := FJ N p0) h (fun v2 => mk [(1, oD (.ptr 1 0)), (3, oD (.own 2001)), (18, iD ((p0.fd.length : Int))), (19, iD v2.2)] [(1, .box (AQ p0)), (2001, .vec 1 (v2.1.map ER))]) (fun v3 => mk [(1, oD (.ptr 1 0)), (3, oD (.own 2002))] [(1, .box (AQ p0)), (2002, .vec 1 (v3.map ER))]) (fun _ _ => rfl) (sm [(2001, 15)] _ _ rfl rfl) (fun j2 n2 v2 h => ?_) (fun v3 s h hs => ?_)
 ·unfold FJ at h
  refine Ar Ac rfl (AY rfl (Ae (Ao ?_)))
  refine Ba h rfl (fun h => ?_) fun h => ?_
  ·refine An (Ao (AJ (Ar Ac rfl (qm rfl (qa rfl (Ae (Ai Ac rfl (qm rfl (qf D0 rfl (ql Bi rfl (qm rfl ?_)))))))))))
   refine Bb h fun v5 a5 b5 h => qi AE Et a5 (Af b5) rfl (qk CV rfl (Ja bq dR rfl (qf Ca rfl (ql Bi rfl (qm rfl ?_)))))
   refine Bb h fun v6 a6 b6 h => qi AE Et a6 (Af b6) rfl (qk CV rfl (AV rfl (Ja bq dR rfl (E5 LT aO dB rfl ?_))))
   refine GA h fun c7 h => Ew (f := ER) LT LT aO aI dB c7 rfl (qa rfl (AI (by kernel_rfl) (Ai Ac rfl (AV rfl (qm rfl (Ae ?_))))))
   exact sn [(2001, 37)] h
  ·refine AT ?_
   exact sn [(2002, 2001)] h
 ·refine Aj hs (Ao (Ar Ac rfl (qf DO rfl (ql IT rfl (AX E0 rfl (qm rfl (Ae ?_)))))))
  refine AA (L := EK N p0) h (fun v8 => mk [(3, oD (.own 2003)), (40, pD (.sl (p0.fe.map ER))), (41, iD ((p0.fe.length : Int))), (42, iD v8.2)] [(2003, .vec 1 (v8.1.map ER))]) (fun v9 => mk [(3, oD (.own 2004))] [(2004, .vec 1 (v9.map ER))]) (fun _ _ => rfl) (sm [(2003, 2002)] _ _ rfl rfl) (fun j8 n8 v8 h => ?_) (fun v9 s h hs => ?_)
  ·unfold EK at h
   refine Ar Ac rfl (AY rfl (Ae (Ao ?_)))
   refine Ba h rfl (fun h => ?_) fun h => ?_
   ·refine An (Ao (AJ (Ar Ac rfl ?_)))
    refine Bb h fun v11 a11 b11 h => qi E0 HK a11 (Af b11) rfl (qk Mj rfl (qa rfl (Ae (Ai Ac rfl (qm rfl (qm rfl (E5 LT aO dB rfl ?_)))))))
    refine GA h fun c12 h => Ew (f := ER) LT LT aO aI dB c12 rfl (qa rfl (Ae (Ai Ac rfl (AV rfl (qm rfl (Ae ?_))))))
    exact sn [(2003, 49)] h
   ·refine AT ?_
    exact sn [(2004, 2003)] h
  ·refine Aj hs (Ar Ac rfl (qm rfl ?_))
   refine XC v9 (.p rfl) rfl (Yd ER _ _ _) ⟨rfl, tv⟩ rfl dy Zf ?_
   refine qa rfl (Ae ?_)
   obtain rfl := sj h
   refine Aj (sm [] [(2, pD (.val (.string ((Di v9)))))] [] rfl rfl) (Aw ?_)
   exact ⟨⟨[_], ⟨.tmp _ _ rfl, tv⟩, rfl⟩, tv⟩
theorem Vd (N : Nat) (p0 : Ad) (r : (List Ah)) (h : Jz N p0 = some r) : Ax Tryz.prog 126 [.e (.agg (Ak p0))] [(3, r.map AN)] (oD (.own 0)) := by
 unfold Jz at h
 refine Am (n := 54) (rs := [.tmp 2]) Tryz.func126 rfl rfl rfl (A0 rfl) (A0 rfl) rfl fun w0 S0 => ?_
 refine Ar Ac rfl (qb rfl (qa rfl (Ae (Ar Ac rfl (qa rfl (Ae (Ao (Ar Ac rfl (qf BF rfl (ql Bi rfl (AX AE rfl (qm rfl (Ae ?_)))))))))))))
 refine AA (L := Ea N p0) h (fun v1 => mk [(1, oD (.ptr 1 0)), (3, oD (.own 2001)), (10, pD (.sl (p0.fc.map Av))), (11, iD ((p0.fc.length : Int))), (12, iD v1.2)] [(1, .box (Ak p0)), (2001, .vec 3 (v1.1.map AN))]) (fun v2 => mk [(1, oD (.ptr 1 0)), (3, oD (.own 2002))] [(1, .box (Ak p0)), (2002, .vec 3 (v2.map AN))]) (fun _ _ => rfl) ((Bf 3 2005 3 rfl rfl rfl).trans (sm [(2001, 2005)] _ _ rfl rfl)) (fun j1 n1 v1 h => ?_) (fun v2 s h hs => ?_)
 ·unfold Ea at h
  refine Ar Ac rfl (AY rfl (Ae (Ao ?_)))
  refine Ba h rfl (fun h => ?_) fun h => ?_
  ·refine An (Ao (AJ (Ar Ac rfl (qm rfl ?_))))
   refine Bb h fun v4 a4 b4 h => qi AE Et a4 (Af b4) rfl (qk CV rfl (qa rfl (qa rfl (Ae (Ar Ac rfl (qm rfl (qm rfl (Ae ?_))))))))
   refine AA (L := FT N v1 v4) h (fun v5 => mk [(1, oD (.ptr 1 0)), (3, oD (.own 2003)), (4, iD v1.2), (10, pD (.sl (p0.fc.map Av))), (11, iD ((p0.fc.length : Int))), (12, iD v1.2), (17, iD v4), (18, iD v5.2)] [(1, .box (Ak p0)), (2003, .vec 3 (v5.1.map AN))]) (fun v6 => mk [(1, oD (.ptr 1 0)), (3, oD (.own 2004)), (10, pD (.sl (p0.fc.map Av))), (11, iD ((p0.fc.length : Int))), (12, iD v1.2)] [(1, .box (Ak p0)), (2004, .vec 3 (v6.map AN))]) (fun _ _ => rfl) (sm [(2003, 2001)] _ _ rfl rfl) (fun j5 n5 v5 h => ?_) (fun v6 s h hs => ?_)
   ·unfold FT at h
    refine Ar Ac rfl (AY rfl (Ae (Ao ?_)))
    refine Ba h rfl (fun h => ?_) fun h => ?_
    ·refine An (Ao (AJ (Ar Ac rfl (qm rfl (qa rfl (Ae (Ai Ac rfl (qm rfl (qm rfl (qm rfl (Bo Jf Wg rfl (E5 Ga DV Jf rfl ?_))))))))))))
     refine GA h fun c8 h => Ew (f := AN) Ga Ga DV QX Jf c8 rfl (qa rfl (Ae (Ai Ac rfl (AV rfl (qm rfl (Ae ?_))))))
     exact sn [(2003, 26)] h
    ·refine AT ?_
     exact sn [(2004, 2003)] h
   ·refine Aj hs (Ai Ac rfl (AV rfl (qm rfl (Ae ?_))))
    exact sn [(2001, 2004)] h
  ·refine AT ?_
   exact sn [(2002, 2001)] h
 ·refine Aj hs (Ao (Ar Ac rfl (qf BF rfl (ql Bi rfl (AX AE rfl (qm rfl (Ae ?_)))))))
  refine AA (L := C7 N p0) h (fun v9 => mk [(1, oD (.ptr 1 0)), (3, oD (.own 2006)), (31, iD ((p0.fc.length : Int))), (32, iD v9.2)] [(1, .box (Ak p0)), (2006, .vec 3 (v9.1.map AN))]) (fun v10 => mk [(1, oD (.ptr 1 0)), (3, oD (.own 2007))] [(1, .box (Ak p0)), (2007, .vec 3 (v10.map AN))]) (fun _ _ => rfl) (sm [(2006, 2002)] _ _ rfl rfl) (fun j9 n9 v9 h => ?_) (fun v10 s h hs => ?_)
  ·unfold C7 at h
   refine Ar Ac rfl (AY rfl (Ae (Ao ?_)))
   refine Ba h rfl (fun h => ?_) fun h => ?_
   ·refine An (Ao (AJ (Ar Ac rfl (qm rfl (qa rfl (Ae (Ai Ac rfl (qm rfl (qm rfl (Bo Jf Wg rfl (E5 Ga DV Jf rfl ?_)))))))))))
    refine GA h fun c12 h => Ew (f := AN) Ga Ga DV QX Jf c12 rfl (qa rfl (Ae (Ai Ac rfl (AV rfl (qm rfl (Ae ?_))))))
    exact sn [(2006, 39)] h
   ·refine AT ?_
    exact sn [(2007, 2006)] h
  ·refine Aj hs (Ao (Ar Ac rfl (qf BJ rfl (ql GN rfl (AX C9 rfl (qm rfl (Ae ?_)))))))
   refine AA (L := BN N p0) h (fun v13 => mk [(3, oD (.own 2008)), (43, iD ((p0.fb.length : Int))), (44, iD v13.2)] [(2008, .vec 3 (v13.1.map AN))]) (fun v14 => mk [(3, oD (.own 2009))] [(2009, .vec 3 (v14.map AN))]) (fun _ _ => rfl) (sm [(2008, 2007)] _ _ rfl rfl) (fun j13 n13 v13 h => ?_) (fun v14 s h hs => ?_)
   ·unfold BN at h
    refine Ar Ac rfl (AY rfl (Ae (Ao ?_)))
    refine Ba h rfl (fun h => ?_) fun h => ?_
    ·refine An (Ao (AJ (Ar Ac rfl (qm rfl (qa rfl (Ae (Ai Ac rfl (qm rfl (qm rfl (Bo Jf Wg rfl (E5 Ga DV Jf rfl ?_)))))))))))
     refine GA h fun c16 h => Ew (f := AN) Ga Ga DV QX Jf c16 rfl (qa rfl (Ae (Ai Ac rfl (AV rfl (qm rfl (Ae ?_))))))
     exact sn [(2008, 51)] h
    ·refine AT ?_
     exact sn [(2009, 2008)] h
   ·refine Aj hs (Ar Ac rfl (qm rfl (qe rfl ?_)))
    obtain rfl := sj h
    refine Aj (sm [(1000, 2009)] [(2, oD (.own 1000))] [(1000, .vec 3 (v14.map AN))] rfl rfl) (Aw ?_)
    exact ⟨⟨[_], ⟨.tmp _ _ rfl, tv⟩, rfl⟩, ⟨rfl, tv⟩⟩
theorem Rg (N : Nat) (p0 : Ag) (r : Ag) (h : HZ N p0 = some r) : Ax Tryz.prog 148 [.e (.agg (AQ p0))] [(1, r.fd.map Av), (1, r.fa.map Av), (1, r.fe.map ER)] (.e (.agg [.own 0, .own 1, .own 2])) := by
 unfold HZ at h
 refine Am (n := 13) (rs := [.cell 2 64]) Tryz.func148 rfl rfl rfl (A0 rfl) (A0 rfl) rfl fun w0 S0 => ?_
 refine Ar Ac rfl (qb rfl (qz FI rfl (Ae (Ar Ac rfl (qf D0 rfl (ql Bi rfl ?_))))))
 refine BR h fun v1 a1 h => AC [2001] (C2 N p0.fd v1 a1) UI rfl (qf Ca rfl (ql Bi rfl ?_))
 refine BR h fun v2 a2 h => AC [2002] (C2 N p0.fa v2 a2) UI rfl (qf DO rfl (ql IT rfl ?_))
 refine BR h fun v3 a3 h => AC [2003] (G9 N p0.fe v3 a3) Z6 rfl (Bo FI J4 rfl (qs Bc rfl (AI (by kernel_rfl) ?_)))
 obtain rfl := sj h
 refine Aj (sm [(1000, 2001), (1001, 2002), (1002, 2003)] [(2, oD (.ptr 2 0))] [(2, .box [.own 1000, .own 1001, .own 1002]), (1000, .vec 1 (v1.map Av)), (1001, .vec 1 (v2.map Av)), (1002, .vec 1 (v3.map ER))] rfl rfl) (Aw ?_)
 exact ⟨⟨[_], ⟨.cellN _ _ _ _ _ _ _ rfl rfl CM Bc rfl rfl (J8 rfl), tv⟩, rfl⟩, ⟨rfl, rfl, rfl, tv⟩⟩
theorem M8 (N : Nat) (p0 : Aq) (r : Bool) (h : G7 N p0 = some r) : Ax Tryz.prog 156 [.e (.agg (Bt p0))] [] (bD r) := by
 unfold G7 at h
 refine Am (n := 11) (rs := [.tmp 2]) Tryz.func156 rfl rfl rfl (A0 rfl) (A0 rfl) rfl fun w0 S0 => ?_
 refine Ar Ac rfl (qb rfl (qe rfl ?_))
 refine AR h (fun v1 => mk [(2, bD v1)] []) (fun j1 h => ?_) (fun v1 h => ?_)
 ·refine Ai Ac rfl (qf HJ rfl (ql CV rfl (B9 rfl (qm rfl ?_))))
  refine E7 6 h rfl (fun h => ?_) fun h => ?_
  ·refine qn rfl (qn rfl (qn rfl (qp rfl (qe rfl ?_))))
   exact sn [] h
  ·refine qf HJ rfl (ql CV rfl (B9 rfl (qp rfl (qe rfl ?_))))
   exact sn [] h
 ·obtain rfl := sj h
  refine Aj (sm [] [(2, bD v1)] [] rfl rfl) (Aw ?_)
  exact ⟨⟨[_], ⟨.tmp _ _ rfl, tv⟩, rfl⟩, tv⟩
theorem Sz (N : Nat) (p0 : Ad) (p1 : Ag) (p2 : Ah) (r : Bool × (List Int) × (List Int)) (h : Jo N p0 p1 p2 = some r) : B0 Tryz.prog 149 [.e (.agg (Ak p0)), oD (.ptr 90000 0), .e (.agg (Ed p2))] [(.box [.own 90001, .own 90002, .own 90003], .box [.own 90001, .own 90002, .own 90003]), (.vec 1 (p1.fd.map Av), .vec 1 (p1.fd.map Av)), (.vec 1 (p1.fa.map Av), .vec 1 (r.2.1.map Av)), (.vec 1 (p1.fe.map ER), .vec 1 (r.2.2.map ER))] [] (bD r.1) := by
 unfold Jo at h
 refine Bk (n := 70) (rs := [.tmp 6]) Tryz.func149 rfl rfl rfl (A0 rfl) (A0 rfl) rfl rfl (A0 rfl) rfl (A0 rfl) fun w0 S0 GL => ?_
 refine Aj (sm [] [(0, .e (.agg (Ak p0))), (1, oD (.ptr 90000 0)), (2, .e (.agg (Ed p2)))] [(90000, .box [.own 90001, .own 90002, .own 90003]), (90001, .vec 1 (p1.fd.map Av)), (90002, .vec 1 (p1.fa.map Av)), (90003, .vec 1 (p1.fe.map ER))] rfl rfl) (Ar Ac rfl (qb rfl (qb rfl (qa rfl (Ae (Ao ?_))))))
 refine AR h (fun v1 => mk [(1, oD (.ptr 90000 0)), (3, oD (.ptr 3 0)), (5, oD (.ptr 5 0)), (30, bD v1)] [(3, .box (Ak p0)), (5, .box (Ed p2)), (90000, .box [.own 90001, .own 90002, .own 90003]), (90001, .vec 1 (p1.fd.map Av)), (90002, .vec 1 (p1.fa.map Av)), (90003, .vec 1 (p1.fe.map ER))]) (fun j1 h => ?_) (fun v1 h => ?_)
 ·refine Ai Ac rfl (qm rfl (Q8 rfl (qf Ca rfl (ql Bi rfl (qf Fz rfl (ql CV rfl ?_))))))
  refine Bb h fun v2 a2 b2 h => qI AE Et a2 (Af b2) rfl (qj CV (Af b2) rfl (Ej rfl (qm rfl ?_)))
  refine E7 18 h rfl (fun h => ?_) fun h => ?_
  ·refine qn rfl (qn rfl (qn rfl (qn rfl (qn rfl (qn rfl (qn rfl (qn rfl (qn rfl (qn rfl (qn rfl (qp rfl (AI (by kernel_rfl) ?_))))))))))))
   exact sn [] h
  ·refine qm rfl (Q8 rfl (qf D0 rfl (ql Bi rfl (qf Fz rfl (ql CV rfl ?_)))))
   refine Bb h fun v4 a4 b4 h => qI AE Et a4 (Af b4) rfl (qj CV (Af b4) rfl (qf Hr rfl (ql CV rfl (B9 rfl (qp rfl (AI (by kernel_rfl) ?_))))))
   exact sn [] h
 ·refine Ba h rfl (fun h => ?_) fun h => ?_
  ·refine Ar Ac rfl (qe rfl ?_)
   obtain rfl := sj h
   refine Aj (sm [] [(6, bD false)] [(90000, .box [.own 90001, .own 90002, .own 90003]), (90001, .vec 1 (p1.fd.map Av)), (90002, .vec 1 (p1.fa.map Av)), (90003, .vec 1 (p1.fe.map ER))] rfl rfl) (Aw ?_)
   exact ⟨⟨[_], ⟨.tmp _ _ rfl, tv⟩, rfl⟩, ⟨rfl, rfl, rfl, rfl, tv⟩, tv⟩
  ·refine An (Ar Ac rfl (qm rfl (Q8 rfl (qf Ca rfl (ql Bi rfl (qf Fz rfl (ql CV rfl (qf Hr rfl (ql CV rfl ?_)))))))))
   refine Bb h fun v6 a6 b6 h => qI AE Et a6 (Af b6) rfl ?_
   refine A7 rfl rfl rfl rfl (Af b6) rfl Et rfl (A0 rfl) (A4 Av p1.fa _ p2.fr) ?_
   refine AI (by kernel_rfl) (Ao (Ar Ac rfl (qf BJ rfl (ql GN rfl (AX C9 rfl (qm rfl (Ae ?_)))))))
   refine AA (L := EX N p0 p2) h (fun v7 => mk [(1, oD (.ptr 90000 0)), (5, oD (.ptr 5 0)), (41, pD (.sl (p0.fb.map AL))), (42, iD ((p0.fb.length : Int))), (43, iD v7.2)] [(5, .box (Ed p2)), (90000, .box [.own 90001, .own 90002, .own 90003]), (90001, .vec 1 (p1.fd.map Av)), (90002, .vec 1 ((p1.fa.set ((p2.fj).toNat) p2.fr).map Av)), (90003, .vec 1 (v7.1.map ER))]) (fun v8 => mk [] [(90000, .box [.own 90001, .own 90002, .own 90003]), (90001, .vec 1 (p1.fd.map Av)), (90002, .vec 1 ((p1.fa.set ((p2.fj).toNat) p2.fr).map Av)), (90003, .vec 1 (v8.map ER))]) (fun _ _ => rfl) (sm [] _ _ rfl rfl) (fun j7 n7 v7 h => ?_) (fun v8 s h hs => ?_)
   ·unfold EX at h
    refine Ar Ac rfl (AY rfl (Ae (Ao ?_)))
    refine Ba h rfl (fun h => ?_) fun h => ?_
    ·refine An ?_
     refine AR h (fun v10 => mk [(1, oD (.ptr 90000 0)), (5, oD (.ptr 5 0)), (41, pD (.sl (p0.fb.map AL))), (42, iD ((p0.fb.length : Int))), (43, iD v7.2)] [(5, .box (Ed p2)), (90000, .box [.own 90001, .own 90002, .own 90003]), (90001, .vec 1 (p1.fd.map Av)), (90002, .vec 1 ((p1.fa.set ((p2.fj).toNat) p2.fr).map Av)), (90003, .vec 1 (v10.map ER))]) (fun j10 h => ?_) (fun v10 h => ?_)
     ·refine AJ (Ar Ac rfl (qm rfl ?_))
      refine Bb h fun v11 a11 b11 h => qi C9 Dx a11 (Af b11) rfl (qK HQ Dx rfl (qz JX rfl (qa rfl (qs Dx rfl (Ae ?_)))))
      refine AR h (fun v12 => mk [(1, oD (.ptr 90000 0)), (5, oD (.ptr 5 0)), (7, iD v7.2), (41, pD (.sl (p0.fb.map AL))), (42, iD ((p0.fb.length : Int))), (43, iD v7.2), (56, bD v12)] [(5, .box (Ed p2)), (90000, .box [.own 90001, .own 90002, .own 90003]), (90001, .vec 1 (p1.fd.map Av)), (90002, .vec 1 ((p1.fa.set ((p2.fj).toNat) p2.fr).map Av)), (90003, .vec 1 (v7.1.map ER))]) (fun j12 h => ?_) (fun v12 h => ?_)
      ·refine Ai Ac rfl (qf En rfl (ql CV rfl (qf Fz rfl (ql CV rfl (B9 rfl (qm rfl ?_))))))
       refine E7 53 h rfl (fun h => ?_) fun h => ?_
       ·refine qL HQ Dx rfl ?_
        refine BR h fun v14 a14 h => AC [] (M8 N v11 v14 a14) aB rfl (qp rfl (Ae ?_))
        exact sn [] h
       ·refine qn rfl (qn rfl (qp rfl (Ae ?_)))
        exact sn [] h
      ·refine Ba h rfl (fun h => ?_) fun h => ?_
       ·refine Ai Ac rfl (qm rfl (Q8 rfl (qf DO rfl (ql IT rfl (qm rfl ?_)))))
        refine Bb h fun v16 a16 b16 h => qI E0 HK a16 (Af b16) rfl (qj Mj (Af b16) rfl (qf Hr rfl (ql CV rfl ?_)))
        refine GA h fun c17 h => Jy rfl c17 (XM rfl ?_)
        refine Bb h fun v18 a18 b18 h => qI E0 HK a18 (Af b18) rfl ?_
        refine A7 rfl rfl rfl rfl (Af b18) rfl HK rfl (A0 rfl) (A4 ER v7.1 _ ((Q3 .u8 v16 ((Dw .u8 1 p2.fr))))) ?_
        refine AI (by kernel_rfl) ?_
        exact sn [] h
       ·refine An ?_
        exact sn [] h
     ·refine Ai Ac rfl (AV rfl (qm rfl (Ae ?_)))
      exact sn [] h
    ·refine AT ?_
     exact sn [] h
   ·refine Aj hs (Ar Ac rfl (qe rfl ?_))
    obtain rfl := sj h
    refine Aj (sm [] [(6, bD true)] [(90000, .box [.own 90001, .own 90002, .own 90003]), (90001, .vec 1 (p1.fd.map Av)), (90002, .vec 1 ((p1.fa.set ((p2.fj).toNat) p2.fr).map Av)), (90003, .vec 1 (v8.map ER))] rfl rfl) (Aw ?_)
    exact ⟨⟨[_], ⟨.tmp _ _ rfl, tv⟩, rfl⟩, ⟨rfl, rfl, rfl, rfl, tv⟩, tv⟩
theorem Qy (N : Nat) (p0 : Ag) (p1 : Int) (r : Int) (h : Hq N p0 p1 = some r) : Ax Tryz.prog 157 [.e (.agg (AQ p0)), iD p1] [] (pD (.val (.int .u8 r))) := by
 unfold Hq at h
 refine Am (n := 27) (rs := [.tmp 4]) Tryz.func157 rfl rfl rfl (A0 rfl) (A0 rfl) rfl fun w0 S0 => ?_
 refine Ar Ac rfl (qb rfl (qa rfl (Ae (Ar Ac rfl (qf D0 rfl (ql Bi rfl (qm rfl ?_)))))))
 refine Bb h fun v1 a1 b1 h => qi AE Et a1 (Af b1) rfl (qk CV rfl ?_)
 refine GA h fun c2 h => Jy rfl c2 (qe rfl ?_)
 refine AR h (fun v3 => mk [(5, pD (.val (.int .u8 v3)))] []) (fun j3 h => ?_) (fun v3 h => ?_)
 ·refine Ar Ac rfl (qf Ca rfl (ql Bi rfl (qm rfl ?_)))
  refine Bb h fun v4 a4 b4 h => qi AE Et a4 (Af b4) rfl (qk CV rfl (Ej rfl (Ae ?_)))
  refine Ba h rfl (fun h => ?_) fun h => ?_
  ·refine Ai Ac rfl (qm rfl (qf Ca rfl (ql Bi rfl (qm rfl ?_))))
   refine Bb h fun v6 a6 b6 h => qi AE Et a6 (Af b6) rfl (qk CV rfl ?_)
   refine GA h fun c7 h => Jy rfl c7 (XM rfl (qe rfl ?_))
   exact sn [] h
  ·refine An ?_
   exact sn [] h
 ·refine Ar Ac rfl (qm rfl (qe rfl ?_))
  obtain rfl := sj h
  refine Aj (sm [] [(4, pD (.val (.int .u8 v3)))] [] rfl rfl) (Aw ?_)
  exact ⟨⟨[_], ⟨.tmp _ _ rfl, tv⟩, rfl⟩, tv⟩
theorem Kd (N : Nat) (p0 : Int) (r : Int) (h : D3 N p0 = some r) : Ax Tryz.prog 161 [pD (.val (.int .u8 p0))] [] (iD r) := by
 unfold D3 at h
 refine Am (n := 6) (rs := [.tmp 2]) Tryz.func161 rfl rfl rfl (A0 rfl) (A0 rfl) rfl fun w0 S0 => ?_
 refine Ar Ac rfl (qa rfl (Ae (Ar Ac rfl (qm rfl ?_))))
 refine BR h fun v1 a1 h => O1 (.p rfl) rfl rfl Zf a1 ?_
 refine Ja Z8 XX rfl (qe rfl ?_)
 obtain rfl := sj h
 refine Aj (sm [] [(2, iD ((wI .i64 v1)))] [] rfl rfl) (Aw ?_)
 exact ⟨⟨[_], ⟨.tmp _ _ rfl, tv⟩, rfl⟩, tv⟩
theorem N5 (N : Nat) (p0 : Aq) (p1 : Int) (p2 : Int) (r : Bool) (h : Hm N p0 p1 p2 = some r) : Ax Tryz.prog 158 [.e (.agg (Bt p0)), pD (.val (.int .u8 p1)), iD p2] [] (bD r) := by
 unfold Hm at h
 refine Am (n := 25) (rs := [.tmp 6]) Tryz.func158 rfl rfl rfl (A0 rfl) (A0 rfl) rfl fun w0 S0 => ?_
 refine Ar Ac rfl (qb rfl (qa rfl (Ae (Ao (Ar Ac rfl (qm rfl (qe rfl ?_)))))))
 refine AA (L := EH N p0 p2) h (fun v1 => mk [(2, iD p2), (3, oD (.ptr 3 0)), (7, pD (.val (.int .u8 v1)))] [(3, .box (Bt p0))]) (fun v2 => mk [] []) (fun _ _ => rfl) (sm [] _ _ rfl rfl) (fun j1 n1 v1 h => ?_) (fun v2 s h hs => ?_)
 ·unfold EH at h
  refine Ao (Ar Ac rfl (qm rfl (CF rfl (Ae ?_))))
  refine Ba h rfl (fun h => ?_) fun h => ?_
  ·refine An (Ao (AJ (Ar Ac rfl (qf Fo rfl (ql HL rfl (qm rfl ?_))))))
   refine BR h fun v4 a4 h => AC [] (Kd N v1 v4 a4) dD rfl ?_
   refine Bb h fun v5 a5 b5 h => qi D7 IS a5 (Af b5) rfl (qk Me rfl (qm rfl ?_))
   refine Bb h fun v6 a6 b6 h => qi E6 Nh a6 (Af b6) rfl (qk TE rfl (CO rfl (AI (by kernel_rfl) ?_)))
   refine Ba h rfl (fun h => ?_) fun h => ?_
   ·refine Ar Ac rfl (qe rfl ?_)
    obtain rfl := sj h
    refine Aj (sm [] [(6, bD false)] [] rfl rfl) (Aw ?_)
    exact ⟨⟨[_], ⟨.tmp _ _ rfl, tv⟩, rfl⟩, tv⟩
   ·refine An (Ai Ac rfl (qm rfl (qm rfl (Dp rfl (M5 rfl (qe rfl ?_))))))
    exact sn [] h
  ·refine AT ?_
   exact sn [] h
 ·refine Aj hs (Ar Ac rfl (qe rfl ?_))
  obtain rfl := sj h
  refine Aj (sm [] [(6, bD true)] [] rfl rfl) (Aw ?_)
  exact ⟨⟨[_], ⟨.tmp _ _ rfl, tv⟩, rfl⟩, tv⟩
theorem SS (N : Nat) (p0 : Ad) (p1 : Ag) (p2 : Int) (r : Bool × (List Int)) (h : Ir N p0 p1 p2 = some r) : B0 Tryz.prog 150 [.e (.agg (Ak p0)), oD (.ptr 90000 0), iD p2] [(.box [.own 90001, .own 90002, .own 90003], .box [.own 90001, .own 90002, .own 90003]), (.vec 1 (p1.fd.map Av), .vec 1 (p1.fd.map Av)), (.vec 1 (p1.fa.map Av), .vec 1 (p1.fa.map Av)), (.vec 1 (p1.fe.map ER), .vec 1 (r.2.map ER))] [] (bD r.1) := by
 unfold Ir at h
 refine Bk (n := 68) (rs := [.tmp 6]) Tryz.func150 rfl rfl rfl (A0 rfl) (A0 rfl) rfl rfl (A0 rfl) rfl (A0 rfl) fun w0 S0 GL => ?_
 refine Aj (sm [] [(0, .e (.agg (Ak p0))), (1, oD (.ptr 90000 0)), (2, iD p2)] [(90000, .box [.own 90001, .own 90002, .own 90003]), (90001, .vec 1 (p1.fd.map Av)), (90002, .vec 1 (p1.fa.map Av)), (90003, .vec 1 (p1.fe.map ER))] rfl rfl) (Ar Ac rfl (qb rfl (qa rfl (Ae (Ar Ac rfl (qf BJ rfl (ql GN rfl (qm rfl ?_))))))))
 refine Bb h fun v1 a1 b1 h => qi C9 Dx a1 (Af b1) rfl (qK HQ Dx rfl (qz JX rfl (qs Dx rfl (Ae (Ao (Ar Ac rfl (qL HQ Dx rfl ?_)))))))
 refine BR h fun v2 a2 h => AC [] (M8 N v1 v2 a2) aB rfl (CO rfl (Ae ?_))
 refine Ba h rfl (fun h => ?_) fun h => ?_
 ·refine Ar Ac rfl (qe rfl ?_)
  obtain rfl := sj h
  refine Aj (sm [] [(6, bD false)] [(90000, .box [.own 90001, .own 90002, .own 90003]), (90001, .vec 1 (p1.fd.map Av)), (90002, .vec 1 (p1.fa.map Av)), (90003, .vec 1 (p1.fe.map ER))] rfl rfl) (Aw ?_)
  exact ⟨⟨[_], ⟨.tmp _ _ rfl, tv⟩, rfl⟩, ⟨rfl, rfl, rfl, rfl, tv⟩, tv⟩
 ·refine An (Ar Ac rfl (qm rfl (Q8 rfl (qL CM Bc rfl (qf En rfl (ql CV rfl ?_))))))
  refine BR h fun v4 a4 h => Fp [] [90001, 90002, 90003] (Qy N p1 v1.fg v4 a4) cM Dr rfl (qa rfl (AI (by kernel_rfl) (Ar Ac rfl (qm rfl (Q8 rfl (qf DO rfl (ql IT rfl (qm rfl ?_))))))))
  refine Bb h fun v5 a5 b5 h => qI E0 HK a5 (Af b5) rfl (qj Mj (Af b5) rfl (qm rfl (Kt rfl (qa rfl (Ae (Ao ?_))))))
  refine AR h (fun v6 => mk [(1, oD (.ptr 90000 0)), (2, iD p2), (8, pD (.val (.int .u8 v4))), (60, bD v6)] [(90000, .box [.own 90001, .own 90002, .own 90003]), (90001, .vec 1 (p1.fd.map Av)), (90002, .vec 1 (p1.fa.map Av)), (90003, .vec 1 (p1.fe.map ER))]) (fun j6 h => ?_) (fun v6 h => ?_)
  ·refine Ai Ac rfl (qm rfl (Q8 rfl (qf DO rfl (ql IT rfl (qm rfl ?_)))))
   refine Bb h fun v7 a7 b7 h => qI E0 HK a7 (Af b7) rfl (qj Mj (Af b7) rfl (qm rfl (B9 rfl (qm rfl ?_))))
   refine E7 42 h rfl (fun h => ?_) fun h => ?_
   ·refine qn rfl (qn rfl (qn rfl (qn rfl (qu rfl (qu rfl (qu rfl (qu rfl (qu rfl (qu rfl (qu rfl (qu rfl (qu rfl (qu rfl (qu rfl (qu rfl (qn rfl (qp rfl (AI (by kernel_rfl) ?_))))))))))))))))))
    exact sn [] h
   ·refine qf HJ rfl (ql CV rfl (B9 rfl (qm rfl ?_)))
    refine E7 46 h rfl (fun h => ?_) fun h => ?_
    ·refine qL HQ Dx rfl (qm rfl (qm rfl (Q8 rfl (qf D0 rfl (ql Bi rfl (qf En rfl (ql CV rfl ?_)))))))
     refine Bb h fun v10 a10 b10 h => qI AE Et a10 (Af b10) rfl (qj CV (Af b10) rfl ?_)
     refine BR h fun v11 a11 h => AC [] (N5 N v1 ((Ek .u8 v5 v4)) v10 v11 a11) cf rfl (CO rfl (qp rfl (qp rfl (AI (by kernel_rfl) ?_))))
     exact sn [] h
    ·refine qn rfl (qn rfl (qn rfl (qn rfl (qn rfl (qn rfl (qn rfl (qn rfl (qn rfl (qn rfl (qn rfl (qn rfl (qp rfl (qp rfl (AI (by kernel_rfl) ?_))))))))))))))
     exact sn [] h
  ·refine Ba h rfl (fun h => ?_) fun h => ?_
   ·refine Ar Ac rfl (qe rfl ?_)
    obtain rfl := sj h
    refine Aj (sm [] [(6, bD false)] [(90000, .box [.own 90001, .own 90002, .own 90003]), (90001, .vec 1 (p1.fd.map Av)), (90002, .vec 1 (p1.fa.map Av)), (90003, .vec 1 (p1.fe.map ER))] rfl rfl) (Aw ?_)
    exact ⟨⟨[_], ⟨.tmp _ _ rfl, tv⟩, rfl⟩, ⟨rfl, rfl, rfl, rfl, tv⟩, tv⟩
   ·refine An (Ar Ac rfl (qm rfl (Q8 rfl (qf DO rfl (ql IT rfl (qm rfl (qm rfl ?_)))))))
    refine Bb h fun v13 a13 b13 h => qI E0 HK a13 (Af b13) rfl ?_
    refine A7 rfl rfl rfl rfl (Af b13) rfl HK rfl (A0 rfl) (A4 ER p1.fe _ v4) ?_
    refine Ae (Ar Ac rfl (qe rfl ?_))
    obtain rfl := sj h
    refine Aj (sm [] [(6, bD true)] [(90000, .box [.own 90001, .own 90002, .own 90003]), (90001, .vec 1 (p1.fd.map Av)), (90002, .vec 1 (p1.fa.map Av)), (90003, .vec 1 ((p1.fe.set ((p2).toNat) v4).map ER))] rfl rfl) (Aw ?_)
    exact ⟨⟨[_], ⟨.tmp _ _ rfl, tv⟩, rfl⟩, ⟨rfl, rfl, rfl, rfl, tv⟩, tv⟩
theorem Oe (N : Nat) (p0 : Ad) (p1 : Ag) (p2 : Ah) (r : Ag × Bool) (h : GU N p0 p1 p2 = some r) : Ax Tryz.prog 128 [.e (.agg (Ak p0)), .e (.agg (AQ p1)), .e (.agg (Ed p2))] [(1, r.1.fd.map Av), (1, r.1.fa.map Av), (1, r.1.fe.map ER)] (.tup [.agg [.own 0, .own 1, .own 2], .one (.pure (.val (.bool r.2)))]) := by
 unfold GU at h
 refine Am (n := 51) (rs := [.cell 6 64, .tmp 7]) Tryz.func128 rfl rfl rfl (A0 rfl) (A0 rfl) rfl fun w0 S0 => ?_
 refine Ar Ac rfl (qb rfl (qb rfl (qb rfl (qz FI rfl (qa rfl (Ae (Ar Ac rfl (qL CM Bc rfl ?_))))))))
 refine BR h fun v1 a1 h => AC [2001, 2002, 2003] (Rg N p1 v1 a1) dm rfl (qz FI rfl (qs Bc rfl (Ae (Ao (Ar Ac rfl (qf Gs rfl (ql CV rfl (Ae (AJ (Ar Ac rfl (B9 rfl (qe rfl ?_))))))))))))
 refine Ba h rfl (fun h => ?_) fun h => ?_
 ·refine Ar Ac rfl (qL CM Bc rfl (qL Dv Ci rfl (qL Ia DV rfl ?_)))
  refine BR h fun v3 a3 h => DT (ds0 := [_, _, _]) [8, 2001, 2002, 2003] [] [false, false, true, true] (Sz N p0 v1 p2 v3 a3) (.p rfl) c4 rfl ⟨rfl, rfl, rfl, tv⟩ rfl rfl (by decide) ⟨rfl, rfl, rfl, rfl, tv⟩ rfl (Be rfl) tv ⟨(fun _ => rfl), (fun _ => rfl), (fun h => by cases h), (fun h => by cases h), tv⟩ rfl rfl rfl ?_
  refine qs Bc rfl (qa rfl (AI (by kernel_rfl) ?_))
  obtain rfl := sj h
  refine Aj (sm [(1000, 2001), (1001, 2002), (1002, 2003)] [(6, oD (.ptr 6 0)), (7, bD v3.1)] [(6, .box [.own 1000, .own 1001, .own 1002]), (1000, .vec 1 (v1.fd.map Av)), (1001, .vec 1 (v3.2.1.map Av)), (1002, .vec 1 (v3.2.2.map ER))] rfl rfl) (Aw ?_)
  exact ⟨⟨[_, _], ⟨.cellN _ _ _ _ _ _ _ rfl rfl CM Bc rfl rfl (J8 rfl), ⟨.tmp _ _ rfl, tv⟩⟩, rfl⟩, ⟨rfl, rfl, rfl, tv⟩⟩
 ·refine Ar Ac rfl (B9 rfl (qe rfl ?_))
  refine Ba h rfl (fun h => ?_) fun h => ?_
  ·refine Ar Ac rfl (qL CM Bc rfl (qL Dv Ci rfl (qf Fz rfl (ql CV rfl ?_))))
   refine BR h fun v5 a5 h => DT (ds0 := [_, _, _]) [8, 2001, 2002, 2003] [] [false, false, false, true] (SS N p0 v1 p2.fj v5 a5) (.p rfl) cp rfl ⟨rfl, rfl, rfl, tv⟩ rfl rfl (by decide) ⟨rfl, rfl, rfl, rfl, tv⟩ rfl (Be rfl) tv ⟨(fun _ => rfl), (fun _ => rfl), (fun _ => rfl), (fun h => by cases h), tv⟩ rfl rfl rfl ?_
   refine qs Bc rfl (qa rfl (AI (by kernel_rfl) ?_))
   obtain rfl := sj h
   refine Aj (sm [(1000, 2001), (1001, 2002), (1002, 2003)] [(6, oD (.ptr 6 0)), (7, bD v5.1)] [(6, .box [.own 1000, .own 1001, .own 1002]), (1000, .vec 1 (v1.fd.map Av)), (1001, .vec 1 (v1.fa.map Av)), (1002, .vec 1 (v5.2.map ER))] rfl rfl) (Aw ?_)
   exact ⟨⟨[_, _], ⟨.cellN _ _ _ _ _ _ _ rfl rfl CM Bc rfl rfl (J8 rfl), ⟨.tmp _ _ rfl, tv⟩⟩, rfl⟩, ⟨rfl, rfl, rfl, tv⟩⟩
  ·refine An (Ar Ac rfl (qf Ca rfl (ql Bi rfl (qf Fz rfl (ql CV rfl ?_)))))
   refine Bb h fun v6 a6 b6 h => qI AE Et a6 (Af b6) rfl (qj CV (Af b6) rfl (qa rfl (Ae (Ao (Ar Ac rfl (qm rfl (AY rfl (Ae ?_))))))))
   refine Ba h rfl (fun h => ?_) fun h => ?_
   ·refine Ar Ac rfl (qL CM Bc rfl (qs Bc rfl (qe rfl ?_)))
    obtain rfl := sj h
    refine Aj (sm [(1000, 2001), (1001, 2002), (1002, 2003)] [(6, oD (.ptr 6 0)), (7, bD false)] [(6, .box [.own 1000, .own 1001, .own 1002]), (1000, .vec 1 (v1.fd.map Av)), (1001, .vec 1 (v1.fa.map Av)), (1002, .vec 1 (v1.fe.map ER))] rfl rfl) (Aw ?_)
    exact ⟨⟨[_, _], ⟨.cellN _ _ _ _ _ _ _ rfl rfl CM Bc rfl rfl (J8 rfl), ⟨.tmp _ _ rfl, tv⟩⟩, rfl⟩, ⟨rfl, rfl, rfl, tv⟩⟩
   ·refine An (Ar Ac rfl (qf Ca rfl (ql Bi rfl (qf Fz rfl (ql CV rfl ?_)))))
    refine Bb h fun v8 a8 b8 h => qI AE Et a8 (Af b8) rfl ?_
    refine A7 rfl rfl rfl rfl (Af b8) rfl Et rfl (A0 rfl) (A4 Av v1.fa _ ((-1))) ?_
    refine Ae ?_
    refine AR h (fun v9 => mk [(6, oD (.ptr 6 0)), (8, oD (.ptr 8 0))] [(6, .box [.pure (.nil0), .pure (.nil0), .pure (.nil0)]), (8, .box [.own 2004, .own 2005, .own 2006]), (2004, .vec 1 (v9.map Av)), (2005, .vec 1 ((v1.fa.set ((p2.fj).toNat) ((-1))).map Av)), (2006, .vec 1 (v1.fe.map ER))]) (fun j9 h => ?_) (fun v9 h => ?_)
    ·refine Ar Ac rfl (qf Gs rfl (ql CV rfl (B9 rfl (Ae ?_))))
     refine Ba h rfl (fun h => ?_) fun h => ?_
     ·refine Ai Ac rfl (qf D0 rfl (ql Bi rfl (qf Fz rfl (ql CV rfl (qm rfl ?_)))))
      refine Bb h fun v11 a11 b11 h => qI AE Et a11 (Af b11) rfl ?_
      refine A7 rfl rfl rfl rfl (Af b11) rfl Et rfl (A0 rfl) (A4 Av v1.fd _ v6) ?_
      refine Ae ?_
      exact sn [(2004, 2001), (2005, 2002), (2006, 2003)] h
     ·refine An ?_
      exact sn [(2004, 2001), (2005, 2002), (2006, 2003)] h
    ·refine Ar Ac rfl (qL CM Bc rfl (qs Bc rfl (qe rfl ?_)))
     obtain rfl := sj h
     refine Aj (sm [(1000, 2004), (1001, 2005), (1002, 2006)] [(6, oD (.ptr 6 0)), (7, bD true)] [(6, .box [.own 1000, .own 1001, .own 1002]), (1000, .vec 1 (v9.map Av)), (1001, .vec 1 ((v1.fa.set ((p2.fj).toNat) ((-1))).map Av)), (1002, .vec 1 (v1.fe.map ER))] rfl rfl) (Aw ?_)
     exact ⟨⟨[_, _], ⟨.cellN _ _ _ _ _ _ _ rfl rfl CM Bc rfl rfl (J8 rfl), ⟨.tmp _ _ rfl, tv⟩⟩, rfl⟩, ⟨rfl, rfl, rfl, tv⟩⟩
theorem OX (N : Nat) (p0 : Ah) (p1 : List Int) (p2 : List Int) (p3 : List Int) (p4 : List Aq) (p5 : List Int) (p6 : List Int) (p7 : List Int) (r : Bool) (h : EB N p0 p1 p2 p3 p4 p5 p6 p7 = some r) : Ax Tryz.prog 127 [.e (.agg (Ed p0)), oD (.rop [.sl (p1.map Av), .sl (p2.map Av), .sl (p3.map Av), .sl (p4.map AL)]), oD (.rop [.sl (p5.map Av), .sl (p6.map Av), .sl (p7.map ER)])] [] (bD r) := by
 unfold EB at h
 refine Am (n := 16) (rs := [.tmp 4]) Tryz.func127 rfl rfl rfl (A0 rfl) (A0 rfl) rfl fun w0 S0 => ?_
 refine Ar Ac rfl (qb rfl (qa rfl (Ae (Ar Ac rfl (qK Dv Ci rfl (qK CM Bc rfl (qL Ia DV rfl ?_)))))))
 refine BR h fun v1 a1 h => AC [2001, 2002, 2003] (Oe N ((Ad.mk p1 p2 p3 p4)) ((Ag.mk p5 p6 p7)) p0 v1 a1) Z7 rfl (qm rfl (qx rfl (qx rfl (qz FI rfl (qs Bc rfl (qa rfl (Ae (Ar Ac rfl (qm rfl (CO rfl (qe rfl ?_)))))))))))
 obtain rfl := sj h
 refine Aj (sm [] [(4, bD ((!v1.2)))] [] rfl rfl) (Aw ?_)
 exact ⟨⟨[_], ⟨.tmp _ _ rfl, tv⟩, rfl⟩, tv⟩
theorem If (N : Nat) (p0 : List Ah) (p1 : Ah → Option Bool) (r : Int) (h : Ce N p0 p1 = some r) : Ax Tryz.prog 147 [pD (.sl (p0.map AN)), oD (.clo (CC (Px true AN) tB p1))] [] (iD r) := by
 unfold Ce at h
 refine Am (n := 19) (rs := [.tmp 4]) Tryz.func147 rfl rfl rfl (A0 rfl) (A0 rfl) rfl fun w0 S0 => ?_
 refine Ar Ac rfl (qa rfl (Ae (Ao (Ar Ac rfl (qm rfl (AX Ga rfl (qm rfl (Ae ?_))))))))
 refine AA (L := A9 N p0 p1) h (fun v1 => mk [(0, pD (.sl (p0.map AN))), (1, oD (.clo (CC (Px true AN) tB p1))), (7, iD ((p0.length : Int))), (8, iD v1)] []) (fun v2 => mk [] []) (fun _ _ => rfl) (sm [] _ _ rfl rfl) (fun j1 n1 v1 h => ?_) (fun v2 s h hs => ?_)
 ·unfold A9 at h
  refine Ar Ac rfl (AY rfl (Ae (Ao ?_)))
  refine Ba h rfl (fun h => ?_) fun h => ?_
  ·refine An (Ao (AJ (Ar Ac rfl (qm rfl (qa rfl (Ae (Ar Ac rfl (qm rfl (qm rfl (qm rfl ?_))))))))))
   refine Bb h fun v4 a4 b4 h => qi Ga DV a4 (Af b4) rfl (qK Ia DV rfl ?_)
   refine BR h fun v5 a5 h => Ge (ds0 := [_]) (ar := (Px true AN) v4) (.p rfl) rfl rfl ⟨rfl, tv⟩ rfl rfl rfl (Gf (NJ _ _ PU) a5) ?_
   refine Ae ?_
   refine Ba h rfl (fun h => ?_) fun h => ?_
   ·refine Ar Ac rfl (qm rfl (qe rfl ?_))
    obtain rfl := sj h
    refine Aj (sm [] [(4, iD v1)] [] rfl rfl) (Aw ?_)
    exact ⟨⟨[_], ⟨.tmp _ _ rfl, tv⟩, rfl⟩, tv⟩
   ·refine An (Ai Ac rfl (AV rfl (qm rfl (Ae ?_))))
    exact sn [] h
  ·refine AT ?_
   exact sn [] h
 ·refine Aj hs (Ar Ac rfl (qe rfl ?_))
  obtain rfl := sj h
  refine Aj (sm [] [(4, iD ((-1)))] [] rfl rfl) (Aw ?_)
  exact ⟨⟨[_], ⟨.tmp _ _ rfl, tv⟩, rfl⟩, tv⟩
theorem H2 (N : Nat) (p0 : List Ah) (p1 : Ah → Option Bool) (r : Nat × (List Ah)) (h : B8 N p0 p1 = some r) : B0 Tryz.prog 125 [oD (.own 90000), oD (.clo (CC (Px true AN) tB p1))] [(.vec 3 (p0.map AN), .vec 3 (r.2.map AN))] [] (oD (.view 90000 3 0 r.1)) := by
 unfold B8 at h
 refine Bk (n := 42) (rs := [.tmp 4]) Tryz.func125 rfl rfl rfl (A0 rfl) (A0 rfl) rfl rfl (A0 rfl) rfl (A0 rfl) fun w0 S0 GL => ?_
 refine Aj (sm [] [(0, oD (.own 90000)), (1, oD (.clo (CC (Px true AN) tB p1)))] [(90000, .vec 3 (p0.map AN))] rfl rfl) (Ar Ac rfl (qa rfl (Ae (Ar Ac rfl (qm rfl (qm rfl ?_))))))
 refine BR h fun v1 a1 h => Fp [] [90000] (If N p0 p1 v1 a1) cy Dr rfl (qa rfl (Ae (Ao (Ar Ac rfl (qm rfl (B9 rfl (Ae ?_)))))))
 refine Ba h rfl (fun h => ?_) fun h => ?_
 ·refine Ar Ac rfl (qm rfl (qe rfl ?_))
  obtain rfl := sj h
  refine Aj ((PC AN p0 4 90000 3 rfl rfl).trans (sm [] [(4, oD (.view 90000 3 0 p0.length))] [(90000, .vec 3 (p0.map AN))] rfl rfl)) (Aw ?_)
  exact ⟨⟨[_], ⟨.tmp _ _ rfl, tv⟩, rfl⟩, ⟨rfl, tv⟩, tv⟩
 ·refine An (Ao (Ar Ac rfl (qm rfl (AV rfl (qe rfl ?_)))))
  refine AA (L := A2 N p1) h (fun v3 => mk [(0, oD (.own 90000)), (1, oD (.clo (CC (Px true AN) tB p1))), (5, iD v3.2.1), (6, iD v3.2.2)] [(90000, .vec 3 (v3.1.map AN))]) (fun v4 => mk [(0, oD (.own 90000)), (5, iD v4.2)] [(90000, .vec 3 (v4.1.map AN))]) (fun _ _ => rfl) (sm [] _ _ rfl rfl) (fun j3 n3 v3 h => ?_) (fun v4 s h hs => ?_)
  ·unfold A2 at h
   refine Ao (Ar Ac rfl (qm rfl (qm rfl (D4 Ga rfl (AY rfl (Ae ?_))))))
   refine Ba h rfl (fun h => ?_) fun h => ?_
   ·refine An ?_
    refine AR h (fun v6 => mk [(0, oD (.own 90000)), (1, oD (.clo (CC (Px true AN) tB p1))), (5, iD v6.2), (6, iD v3.2.2)] [(90000, .vec 3 (v6.1.map AN))]) (fun j6 h => ?_) (fun v6 h => ?_)
    ·refine AJ (Ar Ac rfl (qm rfl (qm rfl ?_)))
     refine Bb h fun v7 a7 b7 h => qI Ga DV a7 (Af b7) rfl (qJ Ia DV (Af b7) rfl (qz Jf rfl (qs DV rfl (Ae (Ar Ac rfl (qm rfl (qL Ia DV rfl ?_)))))))
     refine BR h fun v8 a8 h => Ge (ds0 := [_]) (ar := (Px true AN) v7) (.p rfl) rfl rfl ⟨rfl, tv⟩ rfl rfl rfl (Gf (NJ _ _ PU) a8) ?_
     refine CO rfl (Ae ?_)
     refine Ba h rfl (fun h => ?_) fun h => ?_
     ·refine Ar Ac rfl (qm rfl (qm rfl (qL Ia DV rfl ?_)))
      refine Bb h fun v10 a10 b10 h => qI Ga DV a10 (Af b10) rfl ?_
      refine A7 rfl rfl rfl rfl (Af b10) rfl DV rfl (A0 rfl) (A4 AN v3.1 _ v7) ?_
      refine Ae (Ai Ac rfl (qm rfl (AV rfl (qe rfl ?_))))
      exact sn [] h
     ·refine An ?_
      exact sn [] h
    ·refine Ai Ac rfl (qm rfl (AV rfl (qe rfl ?_)))
     exact sn [] h
   ·refine AT ?_
    exact sn [] h
  ·refine Aj hs (Ar Ac rfl (qm rfl (qm rfl ?_)))
   obtain ⟨c11, h⟩ := F9 h
   have w12 : ((v4.2).toNat) + ((v4.1.length - (v4.2).toNat)) ≤ v4.1.length := by have := c11.2.1; have := c11.2.2; omega
   refine Il AN v4.1 (.p rfl) rfl (Iu AN _ _ v4.1) rfl Ga DV (.some _ _ _ _ c11.1) (.none _) ⟨rfl, tv⟩ tv c11.2.1 (by rw [Nat.zero_add]; exact c11.2.2) (Nat.zero_add _) rfl ?_
   have w13 : (HM v4.1 ((v4.2).toNat) (List.replicate ((v4.1.length - (v4.2).toNat)) ((Ah.mk 0 0 0)))).length = v4.1.length := IF (by rw [List.length_replicate]; exact w12)
   refine QG AN v4.1 ((Ah.mk 0 0 0)) rfl rfl (J7 AN _ _ ((v4.2).toNat) ((v4.1.length - (v4.2).toNat)) v4.1 w12) rfl Ga Jf rfl rfl rfl rfl ?_
   refine Ae (Ar Ac rfl (qm rfl (qm rfl ?_)))
   obtain ⟨c14, h⟩ := F9 h
   have w15 : 0 + ((v4.2).toNat) ≤ (HM v4.1 ((v4.2).toNat) (List.replicate ((v4.1.length - (v4.2).toNat)) ((Ah.mk 0 0 0)))).length := by have := c14.2.1; have := c14.2.2; omega
   refine Il AN (HM v4.1 ((v4.2).toNat) (List.replicate ((v4.1.length - (v4.2).toNat)) ((Ah.mk 0 0 0)))) (.p rfl) rfl (Iu AN _ _ (HM v4.1 ((v4.2).toNat) (List.replicate ((v4.1.length - (v4.2).toNat)) ((Ah.mk 0 0 0))))) rfl Ga DV (.none _) (.some _ _ _ _ c14.1) tv ⟨rfl, tv⟩ c14.2.1 (by rw [Nat.zero_add]; exact c14.2.2) (Nat.zero_add _) rfl ?_
   refine qa rfl (Ae ?_)
   obtain rfl := sj h
   refine Aj (sm [] [(4, oD (.view 90000 3 0 ((v4.2).toNat)))] [(90000, .vec 3 ((HM v4.1 ((v4.2).toNat) (List.replicate ((v4.1.length - (v4.2).toNat)) ((Ah.mk 0 0 0)))).map AN))] rfl rfl) (Aw ?_)
   exact ⟨⟨[_], ⟨.tmp _ _ rfl, tv⟩, rfl⟩, ⟨rfl, tv⟩, tv⟩
theorem Qk (N : Nat) (p0 : Ad) (p1 : Ag) (r : (List Ah) × Int) (h : Hu N p0 p1 = some r) : Ax Tryz.prog 89 [.e (.agg (Ak p0)), .e (.agg (AQ p1))] [(3, r.1.map AN)] (.tup [.one (.own 0), .one (iC r.2)]) := by
 unfold Hu at h
 refine Am (n := 17) (rs := [.tmp 4, .tmp 5]) Tryz.func89 rfl rfl rfl (A0 rfl) (A0 rfl) rfl fun w0 S0 => ?_
 refine Ar Ac rfl (qb rfl (qb rfl (qa rfl (qa rfl (Ae (Ao (Ar Ac rfl (qL Dv Ci rfl (qL CM Bc rfl ?_)))))))))
 refine BR h fun v1 a1 h => AC [] (KG N p0 p1 v1 a1) Zc rfl (qa rfl (Ae (Ar Ac rfl (qm rfl (CF rfl (Ae ?_))))))
 refine Ba h rfl (fun h => ?_) fun h => ?_
 ·refine Ar Ac rfl (qm rfl (qa rfl (qe rfl ?_)))
  obtain rfl := sj h
  refine Aj ((Bf 4 2001 3 rfl rfl rfl).trans (sm [(1000, 2001)] [(4, oD (.own 1000)), (5, iD v1)] [(1000, .vec 3 ((([] : List Ah)).map AN))] rfl rfl)) (Aw ?_)
  exact ⟨⟨[_, _], ⟨.tmp _ _ rfl, ⟨.tmp _ _ rfl, tv⟩⟩, rfl⟩, ⟨rfl, tv⟩⟩
 ·refine An (Ar Ac rfl (qL Dv Ci rfl ?_))
  refine BR h fun v3 a3 h => AC [2002] (Vd N p0 v3 a3) cI rfl (EF (NN 2 [.sl (p0.fc.map Av), .sl (p0.fh.map Av), .sl (p0.fm.map Av), .sl (p0.fb.map AL)] rfl rfl) (EF (NN 3 [.sl (p1.fd.map Av), .sl (p1.fa.map Av), .sl (p1.fe.map ER)] rfl rfl) ?_))
  refine Nl (capD := [_, _]) (CC (Px true AN) tB ((fun (x : Ah) => EB N x p0.fc p0.fh p0.fm p0.fb p1.fd p1.fa p1.fe))) (.p rfl) dE rfl ⟨rfl, rfl, tv⟩ rfl (fun ar t ht => by obtain ⟨x, r, rfl, hq, rfl⟩ := Lm ht; exact OX N x p0.fc p0.fh p0.fm p0.fb p1.fd p1.fa p1.fe r hq) ?_
  obtain ⟨v4, a4, h⟩ := bind_some h
  obtain ⟨c5, h⟩ := F9 h
  have w6 : 0 + v4.1 ≤ v4.2.length := by rw [Nat.zero_add]; exact c5
  refine DT (ds0 := [_, _]) [2002] [] [true] (H2 N v3 ((fun (x : Ah) => EB N x p0.fc p0.fh p0.fm p0.fb p1.fd p1.fa p1.fe)) v4 a4) (.p rfl) bU rfl ⟨rfl, rfl, tv⟩ rfl rfl (by decide) ⟨rfl, tv⟩ rfl (Be rfl) tv ⟨(fun h => by cases h), tv⟩ rfl rfl rfl ?_
  refine EF (Xz AN v4.2 16 2002 2003 3 v4.1 rfl rfl rfl rfl rfl c5) (qa rfl (qe rfl ?_))
  obtain rfl := sj h
  refine Aj (sm [(1000, 2003)] [(4, oD (.own 1000)), (5, iD 0)] [(1000, .vec 3 ((v4.2.take v4.1).map AN))] rfl rfl) (Aw ?_)
  exact ⟨⟨[_, _], ⟨.tmp _ _ rfl, ⟨.tmp _ _ rfl, tv⟩⟩, rfl⟩, ⟨rfl, tv⟩⟩
theorem SD (N : Nat) (p0 : Ah) (r : Bool) (h : In N p0 = some r) : Ax Tryz.prog 151 [.e (.agg (Ed p0))] [] (bD r) := by
 unfold In at h
 refine Am (n := 27) (rs := [.tmp 2]) Tryz.func151 rfl rfl rfl (A0 rfl) (A0 rfl) rfl fun w0 S0 => ?_
 refine Ar Ac rfl (qb rfl (qa rfl (Ae (Ao ?_))))
 refine AR h (fun v1 => mk [(1, oD (.ptr 1 0)), (18, bD v1)] [(1, .box (Ed p0))]) (fun j1 h => ?_) (fun v1 h => ?_)
 ·refine Ai Ac rfl (qf Fz rfl (ql CV rfl (qf Hr rfl (ql CV rfl ?_))))
  refine dg (.p rfl) rfl rfl ?_
  refine AY rfl (qm rfl ?_)
  refine E7 9 h rfl (fun h => ?_) fun h => ?_
  ·refine qn rfl (qn rfl (qn rfl (qp rfl (qm rfl (qn rfl (qn rfl (qn rfl (qp rfl (Ae ?_)))))))))
   exact sn [] h
  ·refine qf Gs rfl (ql CV rfl (AY rfl (qp rfl (qm rfl ?_))))
   refine E7 14 h rfl (fun h => ?_) fun h => ?_
   ·refine qn rfl (qn rfl (qn rfl (qp rfl (Ae ?_))))
    exact sn [] h
   ·refine qf Gs rfl (ql CV rfl (GB rfl (qp rfl (Ae ?_))))
    exact sn [] h
 ·refine Ba h rfl (fun h => ?_) fun h => ?_
  ·refine Ar Ac rfl (qe rfl ?_)
   obtain rfl := sj h
   refine Aj (sm [] [(2, bD false)] [] rfl rfl) (Aw ?_)
   exact ⟨⟨[_], ⟨.tmp _ _ rfl, tv⟩, rfl⟩, tv⟩
  ·refine An ?_
   refine AR h (fun v5 => mk [(2, bD v5)] []) (fun j5 h => ?_) (fun v5 h => ?_)
   ·refine Ai Ac rfl (qf Gs rfl (ql CV rfl (B9 rfl (qm rfl ?_))))
    refine E7 22 h rfl (fun h => ?_) fun h => ?_
    ·refine qn rfl (qn rfl (qn rfl (qp rfl (qe rfl ?_))))
     exact sn [] h
    ·refine qf Hr rfl (ql CV rfl (B9 rfl (qp rfl (qe rfl ?_))))
     exact sn [] h
   ·obtain rfl := sj h
    refine Aj (sm [] [(2, bD v5)] [] rfl rfl) (Aw ?_)
    exact ⟨⟨[_], ⟨.tmp _ _ rfl, tv⟩, rfl⟩, tv⟩
theorem Rk (N : Nat) (p0 : Ad) (p1 : Ah) (r : Bool) (h : HV N p0 p1 = some r) : Ax Tryz.prog 152 [.e (.agg (Ak p0)), .e (.agg (Ed p1))] [] (bD r) := by
 unfold HV at h
 refine Am (n := 36) (rs := [.tmp 4]) Tryz.func152 rfl rfl rfl (A0 rfl) (A0 rfl) rfl fun w0 S0 => ?_
 refine Ar Ac rfl (qb rfl (qb rfl (qa rfl (Ae (Ao (Ar Ac rfl (qf Gs rfl (ql CV rfl (B9 rfl (Ae ?_))))))))))
 refine Ba h rfl (fun h => ?_) fun h => ?_
 ·refine Ar Ac rfl (qf Fz rfl (ql CV rfl (qf BJ rfl (ql GN rfl (AX C9 rfl (AY rfl (qe rfl ?_)))))))
  obtain rfl := sj h
  refine Aj (sm [] [(4, bD ((decide (p1.fj < (p0.fb.length : Int)))))] [] rfl rfl) (Aw ?_)
  exact ⟨⟨[_], ⟨.tmp _ _ rfl, tv⟩, rfl⟩, tv⟩
 ·refine An ?_
  refine AR h (fun v2 => mk [(4, bD v2)] []) (fun j2 h => ?_) (fun v2 h => ?_)
  ·refine Ai Ac rfl (qf Fz rfl (ql CV rfl (qf BF rfl (ql Bi rfl (AX AE rfl (AY rfl (qm rfl ?_)))))))
   refine E7 20 h rfl (fun h => ?_) fun h => ?_
   ·refine qf Gs rfl (ql CV rfl (CF rfl (qm rfl ?_)))
    refine E7 24 h rfl (fun h => ?_) fun h => ?_
    ·refine qn rfl (qn rfl (qn rfl (qn rfl (qn rfl (qn rfl (qn rfl (qn rfl (qn rfl (qp rfl (qp rfl (qa rfl (AI (by kernel_rfl) ?_))))))))))))
     exact sn [] h
    ·refine qf Hr rfl (ql CV rfl (qf BF rfl (ql Bi rfl (qf Fz rfl (ql CV rfl ?_)))))
     refine Bb h fun v5 a5 b5 h => qi AE Et a5 (Af b5) rfl (qk CV rfl (AY rfl (qp rfl (qp rfl (qa rfl (AI (by kernel_rfl) ?_))))))
     exact sn [] h
   ·refine qn rfl (qn rfl (qn rfl (qn rfl (qu rfl (qu rfl (qu rfl (qu rfl (qu rfl (qu rfl (qu rfl (qu rfl (qu rfl (qn rfl (qp rfl (qa rfl (AI (by kernel_rfl) ?_))))))))))))))))
    exact sn [] h
  ·obtain rfl := sj h
   refine Aj (sm [] [(4, bD v2)] [] rfl rfl) (Aw ?_)
   exact ⟨⟨[_], ⟨.tmp _ _ rfl, tv⟩, rfl⟩, tv⟩
theorem SG (N : Nat) (p0 : Ad) (p1 : Ag) (p2 : Ah) (r : Ag × Int) (h : Ik N p0 p1 p2 = some r) : Ax Tryz.prog 129 [.e (.agg (Ak p0)), .e (.agg (AQ p1)), .e (.agg (Ed p2))] [(1, r.1.fd.map Av), (1, r.1.fa.map Av), (1, r.1.fe.map ER)] (.tup [.agg [.own 0, .own 1, .own 2], .one (iC r.2)]) := by
 unfold Ik at h
 refine Am (n := 32) (rs := [.cell 6 64, .tmp 7]) Tryz.func129 rfl rfl rfl (A0 rfl) (A0 rfl) rfl fun w0 S0 => ?_
 refine Ar Ac rfl (qb rfl (qb rfl (qb rfl (qz FI rfl (qa rfl (Ae (Ao (AJ (Ar Ac rfl (qL Ia DV rfl ?_))))))))))
 refine BR h fun v1 a1 h => AC [] (SD N p2 v1 a1) cz rfl (CO rfl (qe rfl ?_))
 refine Ba h rfl (fun h => ?_) fun h => ?_
 ·refine Ar Ac rfl (Bo FI J4 rfl (qs Bc rfl (qe rfl ?_)))
  obtain rfl := sj h
  refine Aj ((Ay 6 0 2001 1 _ rfl rfl rfl rfl).trans ((Ay 6 1 2002 1 _ rfl rfl rfl rfl).trans ((Ay 6 2 2003 1 _ rfl rfl rfl rfl).trans (sm [(1000, 2001), (1001, 2002), (1002, 2003)] [(6, oD (.ptr 6 0)), (7, iD 1)] [(6, .box [.own 1000, .own 1001, .own 1002]), (1000, .vec 1 ((([] : List Int)).map Av)), (1001, .vec 1 ((([] : List Int)).map Av)), (1002, .vec 1 ((([] : List Int)).map ER))] rfl rfl)))) (Aw ?_)
  exact ⟨⟨[_, _], ⟨.cellN _ _ _ _ _ _ _ rfl rfl CM Bc rfl rfl (J8 rfl), ⟨.tmp _ _ rfl, tv⟩⟩, rfl⟩, ⟨rfl, rfl, rfl, tv⟩⟩
 ·refine Ar Ac rfl (qL Dv Ci rfl (qL Ia DV rfl ?_))
  refine BR h fun v3 a3 h => AC [] (Rk N p0 p2 v3 a3) dt rfl (CO rfl (qe rfl ?_))
  refine Ba h rfl (fun h => ?_) fun h => ?_
  ·refine Ar Ac rfl (Bo FI J4 rfl (qs Bc rfl (qe rfl ?_)))
   obtain rfl := sj h
   refine Aj ((Ay 6 0 2004 1 _ rfl rfl rfl rfl).trans ((Ay 6 1 2005 1 _ rfl rfl rfl rfl).trans ((Ay 6 2 2006 1 _ rfl rfl rfl rfl).trans (sm [(1000, 2004), (1001, 2005), (1002, 2006)] [(6, oD (.ptr 6 0)), (7, iD 4)] [(6, .box [.own 1000, .own 1001, .own 1002]), (1000, .vec 1 ((([] : List Int)).map Av)), (1001, .vec 1 ((([] : List Int)).map Av)), (1002, .vec 1 ((([] : List Int)).map ER))] rfl rfl)))) (Aw ?_)
   exact ⟨⟨[_, _], ⟨.cellN _ _ _ _ _ _ _ rfl rfl CM Bc rfl rfl (J8 rfl), ⟨.tmp _ _ rfl, tv⟩⟩, rfl⟩, ⟨rfl, rfl, rfl, tv⟩⟩
  ·refine An (Ar Ac rfl (qL Dv Ci rfl (qL CM Bc rfl (qL Ia DV rfl ?_))))
   refine BR h fun v5 a5 h => AC [2007, 2008, 2009] (Oe N p0 p1 p2 v5 a5) Z7 rfl (qm rfl (qx rfl (qx rfl (qz FI rfl (qs Bc rfl (qa rfl (Ae (Ao (Ar Ac rfl (qm rfl (CO rfl (Ae ?_))))))))))))
   refine Ba h rfl (fun h => ?_) fun h => ?_
   ·refine Ar Ac rfl (Bo FI J4 rfl (qs Bc rfl (qe rfl ?_)))
    obtain rfl := sj h
    refine Aj ((Ay 6 0 2010 1 _ rfl rfl rfl rfl).trans ((Ay 6 1 2011 1 _ rfl rfl rfl rfl).trans ((Ay 6 2 2012 1 _ rfl rfl rfl rfl).trans (sm [(1000, 2010), (1001, 2011), (1002, 2012)] [(6, oD (.ptr 6 0)), (7, iD 11)] [(6, .box [.own 1000, .own 1001, .own 1002]), (1000, .vec 1 ((([] : List Int)).map Av)), (1001, .vec 1 ((([] : List Int)).map Av)), (1002, .vec 1 ((([] : List Int)).map ER))] rfl rfl)))) (Aw ?_)
    exact ⟨⟨[_, _], ⟨.cellN _ _ _ _ _ _ _ rfl rfl CM Bc rfl rfl (J8 rfl), ⟨.tmp _ _ rfl, tv⟩⟩, rfl⟩, ⟨rfl, rfl, rfl, tv⟩⟩
   ·refine An (Ar Ac rfl (qL CM Bc rfl (qs Bc rfl (qe rfl ?_))))
    obtain rfl := sj h
    refine Aj (sm [(1000, 2007), (1001, 2008), (1002, 2009)] [(6, oD (.ptr 6 0)), (7, iD 0)] [(6, .box [.own 1000, .own 1001, .own 1002]), (1000, .vec 1 (v5.1.fd.map Av)), (1001, .vec 1 (v5.1.fa.map Av)), (1002, .vec 1 (v5.1.fe.map ER))] rfl rfl) (Aw ?_)
    exact ⟨⟨[_, _], ⟨.cellN _ _ _ _ _ _ _ rfl rfl CM Bc rfl rfl (J8 rfl), ⟨.tmp _ _ rfl, tv⟩⟩, rfl⟩, ⟨rfl, rfl, rfl, tv⟩⟩
theorem SR (N : Nat) (p0 : Ad) (p1 : Ag) (p2 : Ah) (r : Ag × Int) (h : Ii N p0 p1 p2 = some r) : Ax Tryz.prog 90 [.e (.agg (Ak p0)), .e (.agg (AQ p1)), .e (.agg (Ed p2))] [(1, r.1.fd.map Av), (1, r.1.fa.map Av), (1, r.1.fe.map ER)] (.tup [.agg [.own 0, .own 1, .own 2], .one (iC r.2)]) := by
 unfold Ii at h
 refine Am (n := 22) (rs := [.cell 6 64, .tmp 7]) Tryz.func90 rfl rfl rfl (A0 rfl) (A0 rfl) rfl fun w0 S0 => ?_
 refine Ar Ac rfl (qb rfl (qb rfl (qb rfl (qz FI rfl (qa rfl (Ae (Ao (Ar Ac rfl (qL Dv Ci rfl (qL CM Bc rfl ?_))))))))))
 refine BR h fun v1 a1 h => AC [] (KG N p0 p1 v1 a1) Zc rfl (qa rfl (Ae (Ar Ac rfl (qm rfl (CF rfl (Ae ?_))))))
 refine Ba h rfl (fun h => ?_) fun h => ?_
 ·refine Ar Ac rfl (Bo FI J4 rfl (qm rfl (qs Bc rfl (qe rfl ?_))))
  obtain rfl := sj h
  refine Aj ((Ay 6 0 2001 1 _ rfl rfl rfl rfl).trans ((Ay 6 1 2002 1 _ rfl rfl rfl rfl).trans ((Ay 6 2 2003 1 _ rfl rfl rfl rfl).trans (sm [(1000, 2001), (1001, 2002), (1002, 2003)] [(6, oD (.ptr 6 0)), (7, iD v1)] [(6, .box [.own 1000, .own 1001, .own 1002]), (1000, .vec 1 ((([] : List Int)).map Av)), (1001, .vec 1 ((([] : List Int)).map Av)), (1002, .vec 1 ((([] : List Int)).map ER))] rfl rfl)))) (Aw ?_)
  exact ⟨⟨[_, _], ⟨.cellN _ _ _ _ _ _ _ rfl rfl CM Bc rfl rfl (J8 rfl), ⟨.tmp _ _ rfl, tv⟩⟩, rfl⟩, ⟨rfl, rfl, rfl, tv⟩⟩
 ·refine An (Ar Ac rfl (qL Dv Ci rfl (qL CM Bc rfl (qL Ia DV rfl ?_))))
  refine BR h fun v3 a3 h => AC [2004, 2005, 2006] (SG N p0 p1 p2 v3 a3) cA rfl (qx rfl (qx rfl (qs Bc rfl (qe rfl ?_))))
  obtain rfl := sj h
  refine Aj (sm [(1000, 2004), (1001, 2005), (1002, 2006)] [(6, oD (.ptr 6 0)), (7, iD v3.2)] [(6, .box [.own 1000, .own 1001, .own 1002]), (1000, .vec 1 (v3.1.fd.map Av)), (1001, .vec 1 (v3.1.fa.map Av)), (1002, .vec 1 (v3.1.fe.map ER))] rfl rfl) (Aw ?_)
  exact ⟨⟨[_, _], ⟨.cellN _ _ _ _ _ _ _ rfl rfl CM Bc rfl rfl (J8 rfl), ⟨.tmp _ _ rfl, tv⟩⟩, rfl⟩, ⟨rfl, rfl, rfl, tv⟩⟩
theorem Ra (N : Nat) (p0 : Ad) (p1 : Ag) (r : (List AG) × Int) (h : HO N p0 p1 = some r) : Ax Tryz.prog 64 [.e (.agg (Ak p0)), .e (.agg (AQ p1))] [] (.tup [.one (sC (r.1.map Bs)), .one (iC r.2)]) := by
 unfold HO at h
 refine Am (n := 119) (rs := [.tmp 4, .tmp 5]) Tryz.func64 rfl rfl rfl (A0 rfl) (A0 rfl) rfl fun w0 S0 => ?_
 refine Ar Ac rfl (qb rfl (qb rfl (qa rfl (qa rfl (Ae (Ar Ac rfl (qL CM Bc rfl (Bo T2 au rfl ?_))))))))
 refine Nc [(0, .tmp 21, _)] (.p rfl) rfl ⟨rfl, tv⟩ rfl JP L0 T2 rfl rfl (A0 rfl) rfl rfl ?_
 refine EF (IJ 22 8 [.s, .s, .s, .s, .s, .s, .s, .x 1 []] _ ((([(AG.mk p1 ((-1)) ((Ah.mk 0 0 0)) (([] : List Int)))] : List AG)).map Bs) rfl rfl) (qa rfl (Ae (Ar Ac rfl ?_)))
 refine WF (.p rfl) rfl ?_
 refine qL CM Bc rfl ?_
 refine BR h fun v1 a1 h => AC [] (PR N p1 v1 a1) co rfl ?_
 refine Uw (kv := Value.string) (vt := Dc) (m := ([] : List (ByteArray × Int))) (k := v1) (v := 0) rfl (.inr rfl) rfl rfl rfl rfl (O6 S4 aY) rfl ?_
 refine qm rfl (qa rfl (Ae (Ao (Ar Ac rfl (qe rfl ?_)))))
 refine AA (L := EE N p0) h (fun v2 => mk [(2, oD (.ptr 2 0)), (6, oD (.own 2001)), (7, oD (.mref 2002)), (8, iD v2.2.2)] [(2, .box (Ak p0)), (2001, .dvec 8 [.s, .s, .s, .s, .s, .s, .s, .x 1 []] (v2.1.map Bs)), (2002, .mp (Kr Value.string Dc v2.2.1))]) (fun v3 => mk [(6, oD (.own 2003))] [(2003, .dvec 8 [.s, .s, .s, .s, .s, .s, .s, .x 1 []] (v3.map Bs))]) (fun _ _ => rfl) (sm [(2001, 22), (2002, 23)] _ _ rfl rfl) (fun j2 n2 v2 h => ?_) (fun v3 s h hs => ?_)
 ·unfold EE at h
  refine Ao (Ar Ac rfl (qm rfl (qm rfl ?_)))
  refine UT (.p rfl) rfl rfl (KQ Bs v2.1 _ _) JP ?_
  refine AY rfl (Ae ?_)
  refine Ba h rfl (fun h => ?_) fun h => ?_
  ·refine An (Ao (AJ (Ar Ac rfl (qL Dv Ci rfl (qm rfl (qm rfl ?_))))))
   refine Bb h fun v5 a5 b5 h => Ip (.p rfl) rfl rfl rfl (KQ Bs v2.1 _ _) JP L0 a5 (AB b5) ?_
   refine qh QN rfl ?_
   refine Uv (.p rfl) rfl CM Bc rfl (Af b5) rfl rfl (by decide) rfl ?_
   refine BR h fun v6 a6 h => AC [2004] (Qk N p0 ((Ag.mk v5.fq.fd v5.fq.fa v5.fq.fe)) v6 a6) ep rfl (qm rfl (qx rfl (qx rfl (qa rfl (qa rfl (AI (by kernel_rfl) (Ao (Ar Ac rfl (qm rfl (CF rfl (Ae ?_)))))))))))
   refine Ba h rfl (fun h => ?_) fun h => ?_
   ·refine Ar Ac rfl (qm rfl (qa rfl (qe rfl ?_)))
    obtain rfl := sj h
    refine Aj ((Of 4 _ rfl).trans (sm [] [(4, pD (.sl ((([] : List AG)).map Bs))), (5, iD v6.2)] [] rfl rfl)) (Aw ?_)
    exact ⟨⟨[_, _], ⟨.tmp _ _ rfl, ⟨.tmp _ _ rfl, tv⟩⟩, rfl⟩, tv⟩
   ·refine An (Ar Ac rfl (qm rfl (D4 Ga rfl (qm rfl (Ae ?_)))))
    refine AA (L := C0 N p0 v2 v6) h (fun v8 => mk [(2, oD (.ptr 2 0)), (6, oD (.own 2005)), (7, oD (.mref 2006)), (8, iD v2.2.2), (46, oD (.own 2007)), (47, iD ((v6.1.length : Int))), (48, iD v8.2.2)] [(2, .box (Ak p0)), (2005, .dvec 8 [.s, .s, .s, .s, .s, .s, .s, .x 1 []] (v8.1.map Bs)), (2006, .mp (Kr Value.string Dc v8.2.1)), (2007, .vec 3 (v6.1.map AN))]) (fun v9 => mk [(2, oD (.ptr 2 0)), (6, oD (.own 2008)), (7, oD (.mref 2009)), (8, iD v2.2.2)] [(2, .box (Ak p0)), (2008, .dvec 8 [.s, .s, .s, .s, .s, .s, .s, .x 1 []] (v9.1.map Bs)), (2009, .mp (Kr Value.string Dc v9.2))]) (fun _ _ => rfl) (sm [(2005, 2001), (2006, 2002), (2007, 2004)] _ _ rfl rfl) (fun j8 n8 v8 h => ?_) (fun v9 s h hs => ?_)
    ·unfold C0 at h
     refine Ar Ac rfl (AY rfl (Ae (Ao ?_)))
     refine Ba h rfl (fun h => ?_) fun h => ?_
     ·refine An (Ao (AJ (Ar Ac rfl ?_)))
      refine Bb h fun v11 a11 b11 h => qI Ga DV a11 (Af b11) rfl (qJ Ia DV (Af b11) rfl (qz Jf rfl (qs DV rfl (Ae (Ar Ac rfl (qL Dv Ci rfl (qm rfl (qm rfl ?_))))))))
      refine Bb h fun v12 a12 b12 h => Ip (.p rfl) rfl rfl rfl (KQ Bs v8.1 _ _) JP L0 a12 (AB b12) ?_
      refine qh QN rfl ?_
      refine Uv (.p rfl) rfl CM Bc rfl (Af b12) rfl rfl (by decide) rfl ?_
      refine qL Ia DV rfl ?_
      refine BR h fun v13 a13 h => AC [2010, 2011, 2012] (SR N p0 ((Ag.mk v12.fq.fd v12.fq.fa v12.fq.fe)) v11 v13 a13) ee rfl (qm rfl (qx rfl (qx rfl (qz FI rfl (qs Bc rfl (qa rfl (AI (by kernel_rfl) (Ao (Ar Ac rfl (qm rfl (CF rfl (Ae ?_))))))))))))
      refine Ba h rfl (fun h => ?_) fun h => ?_
      ·refine Ar Ac rfl (qm rfl (qa rfl (qe rfl ?_)))
       obtain rfl := sj h
       refine Aj ((Of 4 _ rfl).trans (sm [] [(4, pD (.sl ((([] : List AG)).map Bs))), (5, iD v13.2)] [] rfl rfl)) (Aw ?_)
       exact ⟨⟨[_, _], ⟨.tmp _ _ rfl, ⟨.tmp _ _ rfl, tv⟩⟩, rfl⟩, tv⟩
      ·refine An (Ar Ac rfl (qL CM Bc rfl ?_))
       refine BR h fun v15 a15 h => Fp [] [2010, 2011, 2012] (PR N v13.1 v15 a15) co Dr rfl (qa rfl (Ae (Ar Ac rfl (qm rfl (qm rfl ?_)))))
       refine XT (kv := Value.string) (vt := Dc) (m := v8.2.1) (dv := 0) (.p rfl) rfl rfl rfl (O6 S4 aY) (by rw [S4]; rfl) Lt rfl rfl rfl ?_
       refine qm rfl (qx rfl (qx rfl (qa rfl (qe rfl ?_))))
       refine AR h (fun v16 => mk [(2, oD (.ptr 2 0)), (6, oD (.own 2013)), (7, oD (.mref 2014)), (8, iD v2.2.2), (16, iD v16.2.2), (46, oD (.own 2015)), (47, iD ((v6.1.length : Int))), (48, iD v8.2.2)] [(2, .box (Ak p0)), (2013, .dvec 8 [.s, .s, .s, .s, .s, .s, .s, .x 1 []] (v16.1.map Bs)), (2014, .mp (Kr Value.string Dc v16.2.1)), (2015, .vec 3 (v6.1.map AN))]) (fun j16 h => ?_) (fun v16 h => ?_)
       ·refine Ar Ac rfl (qm rfl (CO rfl (Ae ?_)))
        refine Ba h rfl (fun h => ?_) fun h => ?_
        ·refine AR h (fun v18 => mk [(2, oD (.ptr 2 0)), (6, oD (.own 2016)), (7, oD (.mref 2017)), (8, iD v2.2.2), (15, pD (.val (.string v15))), (16, iD v18.2), (46, oD (.own 2018)), (47, iD ((v6.1.length : Int))), (48, iD v8.2.2)] [(2, .box (Ak p0)), (2016, .dvec 8 [.s, .s, .s, .s, .s, .s, .s, .x 1 []] (v18.1.map Bs)), (2017, .mp (Kr Value.string Dc v8.2.1)), (2018, .vec 3 (v6.1.map AN))]) (fun j18 h => ?_) (fun v18 h => ?_)
         ·refine Ar Ac rfl (qL Dv Ci rfl (qL CM Bc rfl ?_))
          refine BR h fun v19 a19 h => Fp [] [2010, 2011, 2012] (Oa N p0 v13.1 v19 a19) cE Dr rfl (qm rfl (qx rfl (qx rfl (qa rfl (qe rfl ?_)))))
          refine AR h (fun v20 => mk [(2, oD (.ptr 2 0)), (6, oD (.own 2022)), (7, oD (.mref 2023)), (8, iD v2.2.2), (12, oD (.ptr 12 0)), (13, oD (.ptr 13 0)), (15, pD (.val (.string v15))), (46, oD (.own 2024)), (47, iD ((v6.1.length : Int))), (48, iD v8.2.2), (87, bD v20)] [(2, .box (Ak p0)), (12, .box (Ed v11)), (13, .box [.own 2019, .own 2020, .own 2021]), (2019, .vec 1 (v13.1.fd.map Av)), (2020, .vec 1 (v13.1.fa.map Av)), (2021, .vec 1 (v13.1.fe.map ER)), (2022, .dvec 8 [.s, .s, .s, .s, .s, .s, .s, .x 1 []] (v8.1.map Bs)), (2023, .mp (Kr Value.string Dc v8.2.1)), (2024, .vec 3 (v6.1.map AN))]) (fun j20 h => ?_) (fun v20 h => ?_)
          ·refine Ai Ac rfl (qm rfl (CF rfl (qm rfl ?_)))
           refine E7 84 h rfl (fun h => ?_) fun h => ?_
           ·refine qn rfl (qn rfl (qp rfl (Ae ?_)))
            exact sn [(2019, 2010), (2020, 2011), (2021, 2012), (2022, 2005), (2023, 2006), (2024, 2007)] h
           ·refine qm rfl (CO rfl (qp rfl (Ae ?_)))
            exact sn [(2019, 2010), (2020, 2011), (2021, 2012), (2022, 2005), (2023, 2006), (2024, 2007)] h
          ·refine Ba h rfl (fun h => ?_) fun h => ?_
           ·refine Ai Ac rfl (qe rfl ?_)
            exact sn [(2016, 2022), (2017, 2023), (2018, 2024)] h
           ·refine Ar Ac rfl (qm rfl ?_)
            refine UT (.p rfl) rfl rfl (KQ Bs v8.1 _ _) JP ?_
            refine qa rfl (Ae (Ai Ac rfl (qm rfl (qL CM Bc rfl (qm rfl (qL Ia DV rfl (Bo T2 au rfl (EF (BD 2019 _ _ rfl rfl) (EF (BD 2020 _ _ rfl rfl) (EF (BD 2021 _ _ rfl rfl) ?_))))))))))
            refine Nc [(0, .tmp 94, _)] (.p rfl) rfl ⟨rfl, tv⟩ rfl JP L0 T2 rfl rfl (A0 rfl) rfl rfl ?_
            refine EF (IJ 95 8 [.s, .s, .s, .s, .s, .s, .s, .x 1 []] _ ((([(AG.mk v13.1 v2.2.2 v11 (([] : List Int)))] : List AG)).map Bs) rfl rfl) ?_
            refine GA h fun c23 h => Lj (.p rfl) rfl rfl rfl rfl rfl (by decide) JP JP L0 bF (A0 rfl) T2 rfl (Oq (f := Bs) (g := Bs) (xs := v8.1) (ys := (([(AG.mk v13.1 v2.2.2 v11 (([] : List Int)))] : List AG))) c23) (N1 Bs v8.1 (([(AG.mk v13.1 v2.2.2 v11 (([] : List Int)))] : List AG))) rfl rfl ?_
            refine qa rfl (Ae ?_)
            exact sn [(2016, 96), (2017, 2023), (2018, 2024)] h
         ·refine Ai Ac rfl (qm rfl (qm rfl (qm rfl ?_)))
          refine Uw (kv := Value.string) (vt := Dc) (m := v8.2.1) (k := v15) (v := v18.2) rfl (.inl rfl) rfl rfl rfl rfl (O6 S4 aY) rfl ?_
          refine Ae ?_
          exact sn [(2013, 2016), (2014, 2017), (2015, 2018)] h
        ·refine An ?_
         exact sn [(2013, 2005), (2014, 2006), (2015, 2007)] h
       ·refine AR h (fun v24 => mk [(2, oD (.ptr 2 0)), (6, oD (.own 2025)), (7, oD (.mref 2026)), (8, iD v2.2.2), (46, oD (.own 2027)), (47, iD ((v6.1.length : Int))), (48, iD v8.2.2)] [(2, .box (Ak p0)), (2025, .dvec 8 [.s, .s, .s, .s, .s, .s, .s, .x 1 []] (v24.map Bs)), (2026, .mp (Kr Value.string Dc v16.2.1)), (2027, .vec 3 (v6.1.map AN))]) (fun j24 h => ?_) (fun v24 h => ?_)
        ·refine Ar Ac rfl (qm rfl (Ej rfl (Ae ?_)))
         refine Ba h rfl (fun h => ?_) fun h => ?_
         ·refine Ai Ac rfl (qm rfl (qm rfl (qm rfl (qm rfl ?_))))
          refine Bb h fun v26 a26 b26 h => Ip (.p rfl) rfl rfl rfl (KQ Bs v16.1 _ _) JP L0 a26 (AB b26) ?_
          refine qh T8 rfl ?_
          refine Vb (.p rfl) rfl Bi rfl (Af b26) rfl rfl rfl rfl ?_
          refine qm rfl (E5 AE Et Lt rfl ?_)
          refine GA h fun c27 h => Ew (f := Av) AE AE Et Ms Lt c27 rfl ?_
          refine Bb h fun v28 a28 b28 h => Ip (.p rfl) rfl rfl rfl (bE Bs v16.1 _ _ _ _ _) JP L0 a28 (AB b28) ?_
          refine qh T8 rfl ?_
          refine X1 rfl rfl rfl rfl (rows2 := (v26.fa ++ (([v16.2.2] : List Int))).map Av) (cols2 := []) rfl rfl (Af b28) (by decide) Wu rfl rfl (A4 Bs v16.1 _ ((AG.mk ((Ag.mk v28.fq.fd v28.fq.fa v28.fq.fe)) v28.fg ((Ah.mk v28.ft.ff v28.ft.fj v28.ft.fr)) (v26.fa ++ (([v16.2.2] : List Int)))))) ?_
          refine Ae ?_
          exact sn [(2025, 2013), (2026, 2014), (2027, 2015)] h
         ·refine An ?_
          exact sn [(2025, 2013), (2026, 2014), (2027, 2015)] h
        ·refine Ar Ac rfl (qm rfl ?_)
         refine UT (.p rfl) rfl rfl (KQ Bs v24 _ _) JP ?_
         refine GB rfl (Ae ?_)
         refine Ba h rfl (fun h => ?_) fun h => ?_
         ·refine Ar Ac rfl (qa rfl (qe rfl ?_))
          obtain rfl := sj h
          refine Aj ((Of 4 _ rfl).trans (sm [] [(4, pD (.sl ((([] : List AG)).map Bs))), (5, iD 3)] [] rfl rfl)) (Aw ?_)
          exact ⟨⟨[_, _], ⟨.tmp _ _ rfl, ⟨.tmp _ _ rfl, tv⟩⟩, rfl⟩, tv⟩
         ·refine An (Ai Ac rfl (AV rfl (qm rfl (Ae ?_))))
          exact sn [(2005, 2025), (2006, 2026), (2007, 2027)] h
     ·refine AT ?_
      exact sn [(2008, 2005), (2009, 2006)] h
    ·refine Aj hs (Ai Ac rfl (qm rfl (AV rfl (qe rfl ?_))))
     exact sn [(2001, 2008), (2002, 2009)] h
  ·refine AT ?_
   exact sn [(2003, 2001)] h
 ·refine Aj hs (Ar Ac rfl (qm rfl (qa rfl (qe rfl ?_))))
  obtain rfl := sj h
  refine Aj ((OZ 2003 _ _ _ rfl rfl).trans (sm [] [(4, pD (.sl (v3.map Bs))), (5, iD 0)] [] rfl rfl)) (Aw ?_)
  exact ⟨⟨[_, _], ⟨.tmp _ _ rfl, ⟨.tmp _ _ rfl, tv⟩⟩, rfl⟩, tv⟩
theorem Lw (N : Nat) (p0 : List Int) (p1 : List Int) (r : Bool) (h : E2 N p0 p1 = some r) : Ax Tryz.prog 92 [pD (.sl (p0.map Av)), pD (.sl (p1.map Av))] [] (bD r) := by
 unfold E2 at h
 refine Am (n := 26) (rs := [.tmp 4]) Tryz.func92 rfl rfl rfl (A0 rfl) (A0 rfl) rfl fun w0 S0 => ?_
 refine Ar Ac rfl (qa rfl (Ae (Ao (Ar Ac rfl (qm rfl (AX AE rfl (qm rfl (AX AE rfl (CF rfl (Ae ?_))))))))))
 refine Ba h rfl (fun h => ?_) fun h => ?_
 ·refine Ar Ac rfl (qe rfl ?_)
  obtain rfl := sj h
  refine Aj (sm [] [(4, bD false)] [] rfl rfl) (Aw ?_)
  exact ⟨⟨[_], ⟨.tmp _ _ rfl, tv⟩, rfl⟩, tv⟩
 ·refine An (Ao (Ar Ac rfl (qm rfl (AX AE rfl (qm rfl (Ae ?_))))))
  refine AA (L := CJ N p0 p1) h (fun v2 => mk [(0, pD (.sl (p0.map Av))), (1, pD (.sl (p1.map Av))), (12, iD ((p0.length : Int))), (13, iD v2)] []) (fun v3 => mk [] []) (fun _ _ => rfl) (sm [] _ _ rfl rfl) (fun j2 n2 v2 h => ?_) (fun v3 s h hs => ?_)
  ·unfold CJ at h
   refine Ar Ac rfl (AY rfl (Ae (Ao ?_)))
   refine Ba h rfl (fun h => ?_) fun h => ?_
   ·refine An (Ao (AJ (Ar Ac rfl (qm rfl (qa rfl (Ae (Ar Ac rfl (qm rfl (qm rfl ?_)))))))))
    refine Bb h fun v5 a5 b5 h => qi AE Et a5 (Af b5) rfl (qk CV rfl (qm rfl (qm rfl ?_)))
    refine Bb h fun v6 a6 b6 h => qi AE Et a6 (Af b6) rfl (qk CV rfl (CF rfl (AI (by kernel_rfl) ?_)))
    refine Ba h rfl (fun h => ?_) fun h => ?_
    ·refine Ar Ac rfl (qe rfl ?_)
     obtain rfl := sj h
     refine Aj (sm [] [(4, bD false)] [] rfl rfl) (Aw ?_)
     exact ⟨⟨[_], ⟨.tmp _ _ rfl, tv⟩, rfl⟩, tv⟩
    ·refine An (Ai Ac rfl (AV rfl (qm rfl (Ae ?_))))
     exact sn [] h
   ·refine AT ?_
    exact sn [] h
  ·refine Aj hs (Ar Ac rfl (qe rfl ?_))
   obtain rfl := sj h
   refine Aj (sm [] [(4, bD true)] [] rfl rfl) (Aw ?_)
   exact ⟨⟨[_], ⟨.tmp _ _ rfl, tv⟩, rfl⟩, tv⟩
theorem Kn (N : Nat) (p0 : List Int) (p1 : Int → Option Bool) (r : Int) (h : E4 N p0 p1 = some r) : Ax Tryz.prog 131 [pD (.sl (p0.map Av)), oD (.clo (CC (Px false Av) tB p1))] [] (iD r) := by
 unfold E4 at h
 refine Am (n := 19) (rs := [.tmp 4]) Tryz.func131 rfl rfl rfl (A0 rfl) (A0 rfl) rfl fun w0 S0 => ?_
 refine Ar Ac rfl (qa rfl (Ae (Ao (Ar Ac rfl (qm rfl (AX AE rfl (qm rfl (Ae ?_))))))))
 refine AA (L := BA N p0 p1) h (fun v1 => mk [(0, pD (.sl (p0.map Av))), (1, oD (.clo (CC (Px false Av) tB p1))), (7, iD ((p0.length : Int))), (8, iD v1)] []) (fun v2 => mk [] []) (fun _ _ => rfl) (sm [] _ _ rfl rfl) (fun j1 n1 v1 h => ?_) (fun v2 s h hs => ?_)
 ·unfold BA at h
  refine Ar Ac rfl (AY rfl (Ae (Ao ?_)))
  refine Ba h rfl (fun h => ?_) fun h => ?_
  ·refine An (Ao (AJ (Ar Ac rfl (qm rfl (qa rfl (Ae (Ar Ac rfl (qm rfl (qm rfl (qm rfl ?_))))))))))
   refine Bb h fun v4 a4 b4 h => qi AE Et a4 (Af b4) rfl (qk CV rfl ?_)
   refine BR h fun v5 a5 h => Ge (ds0 := [_]) (ar := (Px false Av) v4) (.p rfl) rfl rfl ⟨rfl, tv⟩ rfl rfl rfl (Gf (NJ _ _ Te) a5) ?_
   refine Ae ?_
   refine Ba h rfl (fun h => ?_) fun h => ?_
   ·refine Ar Ac rfl (qm rfl (qe rfl ?_))
    obtain rfl := sj h
    refine Aj (sm [] [(4, iD v1)] [] rfl rfl) (Aw ?_)
    exact ⟨⟨[_], ⟨.tmp _ _ rfl, tv⟩, rfl⟩, tv⟩
   ·refine An (Ai Ac rfl (AV rfl (qm rfl (Ae ?_))))
    exact sn [] h
  ·refine AT ?_
   exact sn [] h
 ·refine Aj hs (Ar Ac rfl (qe rfl ?_))
  obtain rfl := sj h
  refine Aj (sm [] [(4, iD ((-1)))] [] rfl rfl) (Aw ?_)
  exact ⟨⟨[_], ⟨.tmp _ _ rfl, tv⟩, rfl⟩, tv⟩
theorem Jx (N : Nat) (p0 : List Int) (p1 : Int → Option Bool) (r : Bool) (h : Dq N p0 p1 = some r) : Ax Tryz.prog 93 [pD (.sl (p0.map Av)), oD (.clo (CC (Px false Av) tB p1))] [] (bD r) := by
 unfold Dq at h
 refine Am (n := 9) (rs := [.tmp 4]) Tryz.func93 rfl rfl rfl (A0 rfl) (A0 rfl) rfl fun w0 S0 => ?_
 refine Ar Ac rfl (qa rfl (Ae (Ar Ac rfl (qm rfl (qm rfl ?_)))))
 refine BR h fun v1 a1 h => AC [] (Kn N p0 p1 v1 a1) ce rfl (Ej rfl (qe rfl ?_))
 obtain rfl := sj h
 refine Aj (sm [] [(4, bD ((decide (0 ≤ v1))))] [] rfl rfl) (Aw ?_)
 exact ⟨⟨[_], ⟨.tmp _ _ rfl, tv⟩, rfl⟩, tv⟩
theorem Sq (N : Nat) (p0 : Int) (r : Bool) (h : Ij N p0 = some r) : Ax Tryz.prog 94 [iD p0] [] (bD r) := by
 unfold Ij at h
 refine Am (n := 5) (rs := [.tmp 2]) Tryz.func94 rfl rfl rfl (A0 rfl) (A0 rfl) rfl fun w0 S0 => ?_
 refine Ar Ac rfl (qa rfl (Ae (Ar Ac rfl (qm rfl (Ej rfl (qe rfl ?_))))))
 obtain rfl := sj h
 refine Aj (sm [] [(2, bD ((decide (0 ≤ p0))))] [] rfl rfl) (Aw ?_)
 exact ⟨⟨[_], ⟨.tmp _ _ rfl, tv⟩, rfl⟩, tv⟩
theorem U9 (N : Nat) (p0 : Ad) (p1 : Ag) (r : Bool) (h : Jv N p0 p1 = some r) : Ax Tryz.prog 67 [.e (.agg (Ak p0)), .e (.agg (AQ p1))] [] (bD r) := by
 unfold Jv at h
 refine Am (n := 22) (rs := [.tmp 4]) Tryz.func67 rfl rfl rfl (A0 rfl) (A0 rfl) rfl fun w0 S0 => ?_
 refine Ar Ac rfl (qb rfl (qb rfl (qe rfl ?_)))
 refine AR h (fun v1 => mk [(4, bD v1)] []) (fun j1 h => ?_) (fun v1 h => ?_)
 ·refine Ai Ac rfl (qL Dv Ci rfl (qL CM Bc rfl ?_))
  refine BR h fun v2 a2 h => AC [] (KG N p0 p1 v2 a2) Zc rfl (B9 rfl (qm rfl ?_))
  refine E7 9 h rfl (fun h => ?_) fun h => ?_
  ·refine qf D0 rfl (ql Bi rfl (qf Jr rfl (ql Bi rfl ?_)))
   refine BR h fun v4 a4 h => AC [] (Lw N p1.fd p0.fm v4 a4) eH rfl (qp rfl (qm rfl ?_))
   refine E7 16 h rfl (fun h => ?_) fun h => ?_
   ·refine qf Ca rfl (ql Bi rfl ?_)
    refine BR h fun v6 a6 h => AC [] (Ax.weak (ds' := [pD (.sl (p1.fa.map Av)), oD (.fnc 94)]) (Jx N p1.fa ((fun (x : Int) => Ij N x)) v6 a6) ⟨(fun _ _ _ hh => hh), (fun _ _ _ hh => VR dT (fun ar t ht => by obtain ⟨x, r, rfl, hq, rfl⟩ := Lm ht; exact Sq N x r hq) hh), tv⟩) eL rfl ?_
    refine CO rfl (qp rfl (qe rfl ?_))
    exact sn [] h
   ·refine qn rfl (qn rfl (qn rfl (qn rfl (qp rfl (qe rfl ?_)))))
    exact sn [] h
  ·refine qn rfl (qn rfl (qn rfl (qn rfl (qn rfl (qp rfl (qm rfl (qn rfl (qn rfl (qn rfl (qn rfl (qp rfl (qe rfl ?_))))))))))))
   exact sn [] h
 ·obtain rfl := sj h
  refine Aj (sm [] [(4, bD v1)] [] rfl rfl) (Aw ?_)
  exact ⟨⟨[_], ⟨.tmp _ _ rfl, tv⟩, rfl⟩, tv⟩
theorem Rb (N : Nat) (p0 : AG) (p1 : List Int) (p2 : List Int) (p3 : List Int) (p4 : List Aq) (r : Bool) (h : FR N p0 p1 p2 p3 p4 = some r) : Ax Tryz.prog 66 [.e (.agg (Wy p0)), oD (.rop [.sl (p1.map Av), .sl (p2.map Av), .sl (p3.map Av), .sl (p4.map AL)])] [] (bD r) := by
 unfold FR at h
 refine Am (n := 8) (rs := [.tmp 3]) Tryz.func66 rfl rfl rfl (A0 rfl) (A0 rfl) rfl fun w0 S0 => ?_
 refine Ar Ac rfl (qb rfl (qa rfl (Ae (Ar Ac rfl (qK Dv Ci rfl (qf QN rfl (qL CM Bc rfl ?_)))))))
 refine BR h fun v1 a1 h => AC [] (U9 N ((Ad.mk p1 p2 p3 p4)) ((Ag.mk p0.fq.fd p0.fq.fa p0.fq.fe)) v1 a1) eS rfl (qe rfl ?_)
 obtain rfl := sj h
 refine Aj (sm [] [(3, bD v1)] [] rfl rfl) (Aw ?_)
 exact ⟨⟨[_], ⟨.tmp _ _ rfl, tv⟩, rfl⟩, tv⟩
theorem HR (N : Nat) (p0 : List AG) (p1 : AG → Option Bool) (r : Int) (h : CX N p0 p1 = some r) : Ax Tryz.prog 65 [pD (.sl (p0.map Bs)), oD (.clo (CC (Px true Bs) tB p1))] [] (iD r) := by
 unfold CX at h
 refine Am (n := 19) (rs := [.tmp 4]) Tryz.func65 rfl rfl rfl (A0 rfl) (A0 rfl) rfl fun w0 S0 => ?_
 refine Ar Ac rfl (qa rfl (Ae (Ao (Ar Ac rfl (qm rfl (AX JP rfl (qm rfl (Ae ?_))))))))
 refine AA (L := A1 N p0 p1) h (fun v1 => mk [(0, pD (.sl (p0.map Bs))), (1, oD (.clo (CC (Px true Bs) tB p1))), (7, iD ((p0.length : Int))), (8, iD v1)] []) (fun v2 => mk [] []) (fun _ _ => rfl) (sm [] _ _ rfl rfl) (fun j1 n1 v1 h => ?_) (fun v2 s h hs => ?_)
 ·unfold A1 at h
  refine Ar Ac rfl (AY rfl (Ae (Ao ?_)))
  refine Ba h rfl (fun h => ?_) fun h => ?_
  ·refine An (Ao (AJ (Ar Ac rfl (qm rfl (qa rfl (Ae (Ar Ac rfl (qm rfl (qm rfl (qm rfl ?_))))))))))
   refine Bb h fun v4 a4 b4 h => qi JP L0 a4 (Af b4) rfl (qK dC L0 rfl ?_)
   refine BR h fun v5 a5 h => Ge (ds0 := [_]) (ar := (Px true Bs) ((AG.mk ((Ag.mk v4.fq.fd v4.fq.fa v4.fq.fe)) v4.fg ((Ah.mk v4.ft.ff v4.ft.fj v4.ft.fr)) v4.fa))) (.p rfl) rfl rfl ⟨rfl, tv⟩ rfl rfl rfl (Gf (NJ _ _ Uq) a5) ?_
   refine Ae ?_
   refine Ba h rfl (fun h => ?_) fun h => ?_
   ·refine Ar Ac rfl (qm rfl (qe rfl ?_))
    obtain rfl := sj h
    refine Aj (sm [] [(4, iD v1)] [] rfl rfl) (Aw ?_)
    exact ⟨⟨[_], ⟨.tmp _ _ rfl, tv⟩, rfl⟩, tv⟩
   ·refine An (Ai Ac rfl (AV rfl (qm rfl (Ae ?_))))
    exact sn [] h
  ·refine AT ?_
   exact sn [] h
 ·refine Aj hs (Ar Ac rfl (qe rfl ?_))
  obtain rfl := sj h
  refine Aj (sm [] [(4, iD ((-1)))] [] rfl rfl) (Aw ?_)
  exact ⟨⟨[_], ⟨.tmp _ _ rfl, tv⟩, rfl⟩, tv⟩
theorem IA (N : Nat) (p0 : List Ah) (r : (List Ah)) (h : BO N p0 = some r) : B0 Tryz.prog 95 [oD (.own 90000)] [(.vec 3 (p0.map AN), .vec 3 (r.map AN))] [] (.tup []) := by
 unfold BO at h
 refine Bk (n := 28) (rs := []) Tryz.func95 rfl rfl rfl (A0 rfl) (A0 rfl) rfl rfl (A0 rfl) rfl (A0 rfl) fun w0 S0 GL => Pn ?_
 refine Aj (sm [] [(0, oD (.own 90000))] [(90000, .vec 3 (p0.map AN))] rfl rfl) (Ar Ac rfl (qm rfl (D4 Ga rfl (Dp rfl (qa rfl (qe rfl ?_))))))
 refine AA (L := Bx N) h (fun v1 => mk [(0, oD (.own 90000)), (2, iD v1.2.1), (3, iD v1.2.2)] [(90000, .vec 3 (v1.1.map AN))]) (fun v2 => mk [] [(90000, .vec 3 (v2.map AN))]) (fun _ _ => rfl) (sm [] _ _ rfl rfl) (fun j1 n1 v1 h => ?_) (fun v2 s h hs => ?_)
 ·unfold Bx at h
  refine Ao (Ar Ac rfl (qm rfl (qm rfl (AY rfl (Ae ?_)))))
  refine Ba h rfl (fun h => ?_) fun h => ?_
  ·refine An (Ao (AJ (Ai Ac rfl (qm rfl (qm rfl (qm rfl (qm rfl (qm rfl (qm rfl ?_)))))))))
   refine Bb h fun v4 a4 b4 h => qI Ga DV a4 (Af b4) rfl (qJ Ia DV (Af b4) rfl (qm rfl (qm rfl ?_)))
   refine Bb h fun v5 a5 b5 h => qI Ga DV a5 (Af b5) rfl (qJ Ia DV (Af b5) rfl ?_)
   refine Bb h fun v6 a6 b6 h => qI Ga DV a6 (Af b6) rfl ?_
   refine A7 rfl rfl rfl rfl (Af b6) rfl DV rfl (A0 rfl) (A4 AN v1.1 _ v4) ?_
   refine Bb h fun v7 a7 b7 h => qI Ga DV a7 (Af b7) rfl ?_
   refine A7 rfl rfl rfl rfl (Af b7) rfl DV rfl (A0 rfl) (A4 AN (v1.1.set ((v1.2.1).toNat) v4) _ v5) ?_
   refine AI (by kernel_rfl) (Ai Ac rfl (qm rfl (AV rfl (qm rfl (Dp rfl (qa rfl (qe rfl ?_)))))))
   exact sn [] h
  ·refine AT ?_
   exact sn [] h
 ·obtain rfl := sj h
  refine ⟨_, hs.trans (sm [] [] [(90000, .vec 3 (v2.map AN))] rfl rfl), ?_⟩
  exact ⟨⟨[], tv, rfl⟩, ⟨rfl, tv⟩, tv⟩
theorem VK (N : Nat) (p0 : List AG) (p1 : Int) (r : (List Ah)) (h : KK N p0 p1 = some r) : Ax Tryz.prog 68 [pD (.sl (p0.map Bs)), iD p1] [(3, r.map AN)] (oD (.own 0)) := by
 unfold KK at h
 refine Am (n := 28) (rs := [.tmp 4]) Tryz.func68 rfl rfl rfl (A0 rfl) (A0 rfl) rfl fun w0 S0 => ?_
 refine Ar Ac rfl (qa rfl (Ae (Ar Ac rfl (qa rfl (Ae (Ao ?_))))))
 refine AA (L := G6 N p0) h (fun v1 => mk [(0, pD (.sl (p0.map Bs))), (1, iD v1.1), (5, oD (.own 2001))] [(2001, .vec 3 (v1.2.map AN))]) (fun v2 => mk [(5, oD (.own 2002))] [(2002, .vec 3 (v2.map AN))]) (fun _ _ => rfl) ((Bf 5 2003 3 rfl rfl rfl).trans (sm [(2001, 2003)] _ _ rfl rfl)) (fun j1 n1 v1 h => ?_) (fun v2 s h hs => ?_)
 ·unfold G6 at h
  refine Ao (Ar Ac rfl (qm rfl (qm rfl ?_)))
  refine Bb h fun v3 a3 b3 h => qi JP L0 a3 (Af b3) rfl (qg Um rfl (qk CV rfl (Ej rfl (Ae ?_))))
  refine Ba h rfl (fun h => ?_) fun h => ?_
  ·refine An (Ao (AJ (Ai Ac rfl (qm rfl (qm rfl (qm rfl ?_))))))
   refine Bb h fun v5 a5 b5 h => qi JP L0 a5 (Af b5) rfl (qg Ya rfl (qK Ia DV rfl (E5 Ga DV Jf rfl ?_)))
   refine GA h fun c6 h => Ew (f := AN) Ga Ga DV QX Jf c6 rfl (qa rfl (Ae (Ai Ac rfl (qm rfl (qm rfl ?_)))))
   refine Bb h fun v7 a7 b7 h => qi JP L0 a7 (Af b7) rfl (qg Um rfl (qk CV rfl (qe rfl ?_)))
   exact sn [(2001, 24)] h
  ·refine AT ?_
   exact sn [(2002, 2001)] h
 ·refine Aj hs (Ar Ac rfl (qm rfl ?_))
  refine BR h fun v8 a8 h => DT (ds0 := [_]) [2002] [] [true] (IA N v2 v8 a8) (.p rfl) ed rfl ⟨rfl, tv⟩ rfl rfl (by decide) ⟨rfl, tv⟩ rfl (Be rfl) tv ⟨(fun h => by cases h), tv⟩ rfl rfl rfl ?_
  refine Ae (Ar Ac rfl (qm rfl (qe rfl ?_)))
  obtain rfl := sj h
  refine Aj (sm [(1000, 2002)] [(4, oD (.own 1000))] [(1000, .vec 3 (v8.map AN))] rfl rfl) (Aw ?_)
  exact ⟨⟨[_], ⟨.tmp _ _ rfl, tv⟩, rfl⟩, ⟨rfl, tv⟩⟩
theorem T6 (N : Nat) (p0 : Ad) (p1 : Ag) (r : (List Ah) × Int) (h : GK N p0 p1 = some r) : Ax Tryz.prog 36 [.e (.agg (Ak p0)), .e (.agg (AQ p1))] [(3, r.1.map AN)] (.tup [.one (.own 0), .one (iC r.2)]) := by
 unfold GK at h
 refine Am (n := 38) (rs := [.tmp 4, .tmp 5]) Tryz.func36 rfl rfl rfl (A0 rfl) (A0 rfl) rfl fun w0 S0 => ?_
 refine Ar Ac rfl (qb rfl (qb rfl (qa rfl (qa rfl (Ae (Ar Ac rfl (qL Dv Ci rfl (qL CM Bc rfl ?_))))))))
 refine BR h fun v1 a1 h => AC [] (Oa N p0 p1 v1 a1) cE rfl (qm rfl (qx rfl (qx rfl (qa rfl (qa rfl (Ae (Ao (Ar Ac rfl (qm rfl (CF rfl (Ae ?_)))))))))))
 refine Ba h rfl (fun h => ?_) fun h => ?_
 ·refine Ar Ac rfl (qm rfl (qa rfl (qe rfl ?_)))
  obtain rfl := sj h
  refine Aj ((Bf 4 2001 3 rfl rfl rfl).trans (sm [(1000, 2001)] [(4, oD (.own 1000)), (5, iD v1.2)] [(1000, .vec 3 ((([] : List Ah)).map AN))] rfl rfl)) (Aw ?_)
  exact ⟨⟨[_, _], ⟨.tmp _ _ rfl, ⟨.tmp _ _ rfl, tv⟩⟩, rfl⟩, ⟨rfl, tv⟩⟩
 ·refine An (Ao (Ar Ac rfl (qm rfl (CO rfl (Ae ?_)))))
  refine Ba h rfl (fun h => ?_) fun h => ?_
  ·refine Ar Ac rfl (qa rfl (qe rfl ?_))
   obtain rfl := sj h
   refine Aj ((Bf 4 2002 3 rfl rfl rfl).trans (sm [(1000, 2002)] [(4, oD (.own 1000)), (5, iD 13)] [(1000, .vec 3 ((([] : List Ah)).map AN))] rfl rfl)) (Aw ?_)
   exact ⟨⟨[_, _], ⟨.tmp _ _ rfl, ⟨.tmp _ _ rfl, tv⟩⟩, rfl⟩, ⟨rfl, tv⟩⟩
  ·refine An (Ar Ac rfl (qL Dv Ci rfl (qL CM Bc rfl ?_)))
   refine BR h fun v4 a4 h => AC [] (Ra N p0 p1 v4 a4) eT rfl (qm rfl (qx rfl (qx rfl (qa rfl (qa rfl (Ae (Ao (Ar Ac rfl (qm rfl (CF rfl (Ae ?_)))))))))))
   refine Ba h rfl (fun h => ?_) fun h => ?_
   ·refine Ar Ac rfl (qm rfl (qa rfl (qe rfl ?_)))
    obtain rfl := sj h
    refine Aj ((Bf 4 2003 3 rfl rfl rfl).trans (sm [(1000, 2003)] [(4, oD (.own 1000)), (5, iD v4.2)] [(1000, .vec 3 ((([] : List Ah)).map AN))] rfl rfl)) (Aw ?_)
    exact ⟨⟨[_, _], ⟨.tmp _ _ rfl, ⟨.tmp _ _ rfl, tv⟩⟩, rfl⟩, ⟨rfl, tv⟩⟩
   ·refine An (Ar Ac rfl (qm rfl (EF (NN 2 [.sl (p0.fc.map Av), .sl (p0.fh.map Av), .sl (p0.fm.map Av), .sl (p0.fb.map AL)] rfl rfl) ?_)))
    refine Nl (capD := [_]) (CC (Px true Bs) tB ((fun (x : AG) => FR N x p0.fc p0.fh p0.fm p0.fb))) (.p rfl) dY rfl ⟨rfl, tv⟩ rfl (fun ar t ht => by obtain ⟨x, r, rfl, hq, rfl⟩ := Lm ht; exact Rb N x p0.fc p0.fh p0.fm p0.fb r hq) ?_
    refine BR h fun v6 a6 h => AC [] (HR N v4.1 ((fun (x : AG) => FR N x p0.fc p0.fh p0.fm p0.fb)) v6 a6) et rfl (qa rfl (Ae (Ao (Ar Ac rfl (qm rfl (AY rfl (Ae ?_)))))))
    refine Ba h rfl (fun h => ?_) fun h => ?_
    ·refine Ar Ac rfl (qa rfl (qe rfl ?_))
     obtain rfl := sj h
     refine Aj ((Bf 4 2004 3 rfl rfl rfl).trans (sm [(1000, 2004)] [(4, oD (.own 1000)), (5, iD 14)] [(1000, .vec 3 ((([] : List Ah)).map AN))] rfl rfl)) (Aw ?_)
     exact ⟨⟨[_, _], ⟨.tmp _ _ rfl, ⟨.tmp _ _ rfl, tv⟩⟩, rfl⟩, ⟨rfl, tv⟩⟩
    ·refine An (Ar Ac rfl (qm rfl (qm rfl ?_)))
     refine BR h fun v8 a8 h => AC [2005] (VK N v4.1 v6 v8 a8) dU rfl (qa rfl (qe rfl ?_))
     obtain rfl := sj h
     refine Aj (sm [(1000, 2005)] [(4, oD (.own 1000)), (5, iD 0)] [(1000, .vec 3 (v8.map AN))] rfl rfl) (Aw ?_)
     exact ⟨⟨[_, _], ⟨.tmp _ _ rfl, ⟨.tmp _ _ rfl, tv⟩⟩, rfl⟩, ⟨rfl, tv⟩⟩
theorem Tn (N : Nat) (p0 : Ad) (r : (List Ah) × Int) (h : Hn N p0 = some r) : Ax Tryz.prog 13 [.e (.agg (Ak p0))] [(3, r.1.map AN)] (.tup [.one (.own 0), .one (iC r.2)]) := by
 unfold Hn at h
 refine Am (n := 19) (rs := [.tmp 2, .tmp 3]) Tryz.func13 rfl rfl rfl (A0 rfl) (A0 rfl) rfl fun w0 S0 => ?_
 refine Ar Ac rfl (qb rfl (qa rfl (qa rfl (Ae (Ar Ac rfl (qL Dv Ci rfl ?_))))))
 refine BR h fun v1 a1 h => AC [2001, 2002, 2003] (UA N p0 v1 a1) eP rfl (qm rfl (qx rfl (qx rfl (qz FI rfl (qs Bc rfl (qa rfl (Ae (Ao (Ar Ac rfl (qm rfl (CF rfl (Ae ?_))))))))))))
 refine Ba h rfl (fun h => ?_) fun h => ?_
 ·refine Ar Ac rfl (qm rfl (qa rfl (qe rfl ?_)))
  obtain rfl := sj h
  refine Aj ((Bf 2 2004 3 rfl rfl rfl).trans (sm [(1000, 2004)] [(2, oD (.own 1000)), (3, iD v1.2)] [(1000, .vec 3 ((([] : List Ah)).map AN))] rfl rfl)) (Aw ?_)
  exact ⟨⟨[_, _], ⟨.tmp _ _ rfl, ⟨.tmp _ _ rfl, tv⟩⟩, rfl⟩, ⟨rfl, tv⟩⟩
 ·refine An (Ar Ac rfl (qL Dv Ci rfl (qL CM Bc rfl ?_)))
  refine BR h fun v3 a3 h => Fp [2005] [2001, 2002, 2003] (T6 N p0 v1.1 v3 a3) eo (Ks (fun _ => rfl) Dr) rfl (qx rfl (qx rfl (qa rfl (qe rfl ?_))))
  obtain rfl := sj h
  refine Aj (sm [(1000, 2005)] [(2, oD (.own 1000)), (3, iD v3.2)] [(1000, .vec 3 (v3.1.map AN))] rfl rfl) (Aw ?_)
  exact ⟨⟨[_, _], ⟨.tmp _ _ rfl, ⟨.tmp _ _ rfl, tv⟩⟩, rfl⟩, ⟨rfl, tv⟩⟩
theorem IV (N : Nat) (p0 : Ad) (p1 : List Aa) (r : Bool × Int) (h : EP N p0 p1 = some r) : Ax Tryz.prog 42 [.e (.agg (Ak p0)), pD (.sl (p1.map Ab))] [] (.tup [.one (.pure (.val (.bool r.1))), .one (iC r.2)]) := by
 unfold EP at h
 refine Am (n := 20) (rs := [.tmp 4, .tmp 5]) Tryz.func42 rfl rfl rfl (A0 rfl) (A0 rfl) rfl fun w0 S0 => ?_
 refine Ar Ac rfl (qb rfl (qa rfl (qa rfl (Ae (Ar Ac rfl (qL Dv Ci rfl (qm rfl ?_)))))))
 refine BR h fun v1 a1 h => AC [2001, 2002, 2003] (Qd N p0 p1 v1 a1) eb rfl ?_
 refine BR h fun v2 a2 h => Fp [2004] [2001, 2002, 2003] (Tn N v1 v2 a2) eR (Ks (fun _ => rfl) Dr) rfl (qm rfl (qx rfl (qx rfl (qa rfl (qa rfl (Ae (Ao (Ar Ac rfl (qm rfl (B9 rfl (Ae ?_)))))))))))
 refine Ba h rfl (fun h => ?_) fun h => ?_
 ·refine Ar Ac rfl (qm rfl (qa rfl (qe rfl ?_)))
  obtain rfl := sj h
  refine Aj (sm [] [(4, bD false), (5, iD v2.2)] [] rfl rfl) (Aw ?_)
  exact ⟨⟨[_, _], ⟨.tmp _ _ rfl, ⟨.tmp _ _ rfl, tv⟩⟩, rfl⟩, tv⟩
 ·refine An (Ar Ac rfl (qm rfl (B9 rfl (qa rfl (qe rfl ?_)))))
  obtain rfl := sj h
  refine Aj (sm [] [(4, bD ((v2.2 == 0))), (5, iD 0)] [] rfl rfl) (Aw ?_)
  exact ⟨⟨[_, _], ⟨.tmp _ _ rfl, ⟨.tmp _ _ rfl, tv⟩⟩, rfl⟩, tv⟩
theorem M9 (N : Nat) (p0 : Ad) (r : (List (List Aa)) × Int) (h : G4 N p0 = some r) : Ax Tryz.prog 24 [.e (.agg (Ak p0))] [(1, r.1.map (FX Ab))] (.tup [.one (.own 0), .one (iC r.2)]) := by
 unfold G4 at h
 refine Am (n := 54) (rs := [.tmp 2, .tmp 3]) Tryz.func24 rfl rfl rfl (A0 rfl) (A0 rfl) rfl fun w0 S0 => ?_
 refine Ar Ac rfl (qb rfl (qa rfl (qa rfl (Ae (Ar Ac rfl (qL Dv Ci rfl ?_))))))
 refine BR h fun v1 a1 h => AC [2001] (KO N p0 v1 a1) dn rfl (qm rfl (qx rfl (qx rfl (qa rfl (qa rfl (Ae (Ao (Ar Ac rfl (qm rfl (CF rfl (Ae ?_)))))))))))
 refine Ba h rfl (fun h => ?_) fun h => ?_
 ·refine Ar Ac rfl (qm rfl (qa rfl (qe rfl ?_)))
  obtain rfl := sj h
  refine Aj ((Bf 2 2002 1 rfl rfl rfl).trans (sm [(1000, 2002)] [(2, oD (.own 1000)), (3, iD v1.2)] [(1000, .vec 1 ((([] : List (List Aa))).map (FX Ab)))] rfl rfl)) (Aw ?_)
  exact ⟨⟨[_, _], ⟨.tmp _ _ rfl, ⟨.tmp _ _ rfl, tv⟩⟩, rfl⟩, ⟨rfl, tv⟩⟩
 ·refine An (Ao (Ar Ac rfl (qm rfl (D4 AP rfl (GB rfl (Ae ?_))))))
  refine Ba h rfl (fun h => ?_) fun h => ?_
  ·refine Ar Ac rfl (qa rfl (qe rfl ?_))
   obtain rfl := sj h
   refine Aj ((Bf 2 2003 1 rfl rfl rfl).trans (sm [(1000, 2003)] [(2, oD (.own 1000)), (3, iD 3)] [(1000, .vec 1 ((([] : List (List Aa))).map (FX Ab)))] rfl rfl)) (Aw ?_)
   exact ⟨⟨[_, _], ⟨.tmp _ _ rfl, ⟨.tmp _ _ rfl, tv⟩⟩, rfl⟩, ⟨rfl, tv⟩⟩
  ·refine An (Ao (Ar Ac rfl (qe rfl ?_)))
   refine AA (L := Fb N p0) h (fun v4 => mk [(1, oD (.ptr 1 0)), (4, pD (.sl (v4.1.map Ab))), (6, iD v4.2)] [(1, .box (Ak p0))]) (fun v5 => mk [] []) (fun _ _ => rfl) ((BD 2001 _ _ rfl rfl).trans (sm [] _ _ rfl rfl)) (fun j4 n4 v4 h => ?_) (fun v5 s h hs => ?_)
   ·unfold Fb at h
    refine Ao (Ar Ac rfl (qm rfl (KT rfl (Ae ?_))))
    refine Ba h rfl (fun h => ?_) fun h => ?_
    ·refine An (Ao (AJ (Ar Ac rfl (qa rfl (Ae (Ao (Ar Ac rfl (qm rfl (qm rfl ?_)))))))))
     refine BR h fun v7 a7 h => AC [2004] (Qg N v4.1 v4.2 v7 a7) cR rfl (D4 KH rfl (qm rfl (Ae ?_)))
     refine AA (L := EG N p0 v7) h (fun v8 => mk [(1, oD (.ptr 1 0)), (4, pD (.sl (v4.1.map Ab))), (6, iD v4.2), (7, oD (.own 2005)), (29, oD (.own 2006)), (30, iD ((v7.length : Int))), (31, iD v8.2)] [(1, .box (Ak p0)), (2005, .vec 1 (v8.1.map (FX Ab))), (2006, .vec 1 (v7.map (FX Ab)))]) (fun v9 => mk [(1, oD (.ptr 1 0)), (4, pD (.sl (v4.1.map Ab))), (6, iD v4.2), (7, oD (.own 2007))] [(1, .box (Ak p0)), (2007, .vec 1 (v9.map (FX Ab)))]) (fun _ _ => rfl) ((Bf 7 2011 1 rfl rfl rfl).trans (sm [(2005, 2011), (2006, 2004)] _ _ rfl rfl)) (fun j8 n8 v8 h => ?_) (fun v9 s h hs => ?_)
     ·unfold EG at h
      refine Ar Ac rfl (AY rfl (Ae (Ao ?_)))
      refine Ba h rfl (fun h => ?_) fun h => ?_
      ·refine An ?_
       refine AR h (fun v11 => mk [(1, oD (.ptr 1 0)), (4, pD (.sl (v4.1.map Ab))), (6, iD v4.2), (7, oD (.own 2008)), (29, oD (.own 2009)), (30, iD ((v7.length : Int))), (31, iD v8.2)] [(1, .box (Ak p0)), (2008, .vec 1 (v11.map (FX Ab))), (2009, .vec 1 (v7.map (FX Ab)))]) (fun j11 h => ?_) (fun v11 h => ?_)
       ·refine AJ (Ar Ac rfl ?_)
        refine Bb h fun v12 a12 b12 h => qI KH Uf a12 (Af b12) rfl (qj bi (Af b12) rfl (qa rfl (Ae (Ar Ac rfl (qL Dv Ci rfl (qm rfl ?_))))))
        refine BR h fun v13 a13 h => AC [] (IV N p0 v12 v13 a13) aF rfl (qm rfl (qx rfl (qx rfl (qa rfl (qa rfl (Ae (Ao (Ar Ac rfl (qm rfl (CF rfl (Ae ?_)))))))))))
        refine Ba h rfl (fun h => ?_) fun h => ?_
        ·refine Ar Ac rfl (qm rfl (qa rfl (qe rfl ?_)))
         obtain rfl := sj h
         refine Aj ((Bf 2 2010 1 rfl rfl rfl).trans (sm [(1000, 2010)] [(2, oD (.own 1000)), (3, iD v13.2)] [(1000, .vec 1 ((([] : List (List Aa))).map (FX Ab)))] rfl rfl)) (Aw ?_)
         exact ⟨⟨[_, _], ⟨.tmp _ _ rfl, ⟨.tmp _ _ rfl, tv⟩⟩, rfl⟩, ⟨rfl, tv⟩⟩
        ·refine An (Ar Ac rfl (qm rfl (Ae ?_)))
         refine Ba h rfl (fun h => ?_) fun h => ?_
         ·refine Ai Ac rfl (qm rfl (qm rfl (E5 KH Uf Yz rfl ?_)))
          refine GA h fun c16 h => Ew (f := (FX Ab)) KH KH Uf am Yz c16 rfl (qe rfl ?_)
          exact sn [(2008, 48), (2009, 2006)] h
         ·refine An ?_
          exact sn [(2008, 2005), (2009, 2006)] h
       ·refine Ai Ac rfl (AV rfl (qm rfl (Ae ?_)))
        exact sn [(2005, 2008), (2006, 2009)] h
      ·refine AT ?_
       exact sn [(2007, 2005)] h
     ·refine Aj hs (Ar Ac rfl (qm rfl (D4 KH rfl (GB rfl (Ae ?_)))))
      refine Ba h rfl (fun h => ?_) fun h => ?_
      ·refine Ar Ac rfl (qm rfl (qa rfl (qe rfl ?_)))
       obtain rfl := sj h
       refine Aj (sm [(1000, 2007)] [(2, oD (.own 1000)), (3, iD 0)] [(1000, .vec 1 (v9.map (FX Ab)))] rfl rfl) (Aw ?_)
       exact ⟨⟨[_, _], ⟨.tmp _ _ rfl, ⟨.tmp _ _ rfl, tv⟩⟩, rfl⟩, ⟨rfl, tv⟩⟩
      ·refine An (Ai Ac rfl (qm rfl (AV rfl (qe rfl ?_))))
       exact sn [] h
    ·refine AT ?_
     exact sn [] h
   ·refine Aj hs (Ar Ac rfl (qa rfl (qe rfl ?_)))
    obtain rfl := sj h
    refine Aj ((Bf 2 2012 1 rfl rfl rfl).trans (sm [(1000, 2012)] [(2, oD (.own 1000)), (3, iD 14)] [(1000, .vec 1 ((([] : List (List Aa))).map (FX Ab)))] rfl rfl)) (Aw ?_)
    exact ⟨⟨[_, _], ⟨.tmp _ _ rfl, ⟨.tmp _ _ rfl, tv⟩⟩, rfl⟩, ⟨rfl, tv⟩⟩
theorem Hy (N : Nat) (p0 : List Aa) (p1 : Aa) (r : Int) (h : DS N p0 p1 = some r) : Ax Tryz.prog 96 [pD (.sl (p0.map Ab)), .e (.agg (FG p1))] [] (iD r) := by
 unfold DS at h
 refine Am (n := 19) (rs := [.tmp 4]) Tryz.func96 rfl rfl rfl (A0 rfl) (A0 rfl) rfl fun w0 S0 => ?_
 refine Ar Ac rfl (qb rfl (qa rfl (Ae (Ao (Ar Ac rfl (qm rfl (AX AP rfl (qm rfl (Ae ?_)))))))))
 refine AA (L := Cc N p0 p1) h (fun v1 => mk [(0, pD (.sl (p0.map Ab))), (3, oD (.ptr 3 0)), (7, iD ((p0.length : Int))), (8, iD v1)] [(3, .box (FG p1))]) (fun v2 => mk [] []) (fun _ _ => rfl) (sm [] _ _ rfl rfl) (fun j1 n1 v1 h => ?_) (fun v2 s h hs => ?_)
 ·unfold Cc at h
  refine Ar Ac rfl (AY rfl (Ae (Ao ?_)))
  refine Ba h rfl (fun h => ?_) fun h => ?_
  ·refine An (Ao (AJ (Ar Ac rfl (qm rfl (qa rfl (Ae (Ar Ac rfl (qL Dk AO rfl (qm rfl (qm rfl ?_))))))))))
   refine Bb h fun v4 a4 b4 h => qi AP AO a4 (Af b4) rfl (qK Dk AO rfl ?_)
   refine UK [.int .i64 p1.fw, .int .i64 p1.fv, .int .i64 p1.fu] [.int .i64 v4.fw, .int .i64 v4.fv, .int .i64 v4.fu] (.p rfl) rfl rfl R4 rfl ?_
   refine AI (by kernel_rfl) ?_
   refine Ba h rfl (fun h => ?_) fun h => ?_
   ·refine Ar Ac rfl (qm rfl (qe rfl ?_))
    obtain rfl := sj h
    refine Aj (sm [] [(4, iD v1)] [] rfl rfl) (Aw ?_)
    exact ⟨⟨[_], ⟨.tmp _ _ rfl, tv⟩, rfl⟩, tv⟩
   ·refine An (Ai Ac rfl (AV rfl (qm rfl (Ae ?_))))
    exact sn [] h
  ·refine AT ?_
   exact sn [] h
 ·refine Aj hs (Ar Ac rfl (qe rfl ?_))
  obtain rfl := sj h
  refine Aj (sm [] [(4, iD ((-1)))] [] rfl rfl) (Aw ?_)
  exact ⟨⟨[_], ⟨.tmp _ _ rfl, tv⟩, rfl⟩, tv⟩
theorem Hc (N : Nat) (p0 : List Aa) (p1 : Aa) (r : Bool) (h : Dm N p0 p1 = some r) : Ax Tryz.prog 69 [pD (.sl (p0.map Ab)), .e (.agg (FG p1))] [] (bD r) := by
 unfold Dm at h
 refine Am (n := 9) (rs := [.tmp 4]) Tryz.func69 rfl rfl rfl (A0 rfl) (A0 rfl) rfl fun w0 S0 => ?_
 refine Ar Ac rfl (qb rfl (qa rfl (Ae (Ar Ac rfl (qm rfl (qL Dk AO rfl ?_))))))
 refine BR h fun v1 a1 h => AC [] (Hy N p0 p1 v1 a1) en rfl (Ej rfl (qe rfl ?_))
 obtain rfl := sj h
 refine Aj (sm [] [(4, bD ((decide (0 ≤ v1))))] [] rfl rfl) (Aw ?_)
 exact ⟨⟨[_], ⟨.tmp _ _ rfl, tv⟩, rfl⟩, tv⟩
theorem Pu (N : Nat) (p0 : Ad) (p1 : List Aa) (r : Int) (h : Jh N p0 p1 = some r) : Ax Tryz.prog 37 [.e (.agg (Ak p0)), pD (.sl (p1.map Ab))] [] (iD r) := by
 unfold Jh at h
 refine Am (n := 27) (rs := [.tmp 4]) Tryz.func37 rfl rfl rfl (A0 rfl) (A0 rfl) rfl fun w0 S0 => ?_
 refine Ar Ac rfl (qb rfl (qa rfl (Ae (Ao (Ar Ac rfl (qL Dv Ci rfl ?_))))))
 refine BR h fun v1 a1 h => AC [] (EV N p0 v1 a1) WZ rfl (qa rfl (Ae (Ar Ac rfl (qm rfl (CF rfl (Ae ?_))))))
 refine Ba h rfl (fun h => ?_) fun h => ?_
 ·refine Ar Ac rfl (qm rfl (qe rfl ?_))
  obtain rfl := sj h
  refine Aj (sm [] [(4, iD v1)] [] rfl rfl) (Aw ?_)
  exact ⟨⟨[_], ⟨.tmp _ _ rfl, tv⟩, rfl⟩, tv⟩
 ·refine An (Ar Ac rfl (qL Dv Ci rfl ?_))
  refine BR h fun v3 a3 h => AC [2001] (IY N p0 v3 a3) aZ rfl (qa rfl (Ae (Ao (Ar Ac rfl (qm rfl (AX AP rfl (qm rfl (Ae ?_))))))))
  refine AA (L := G1 N p1 v3) h (fun v4 => mk [(6, oD (.own 2002)), (16, pD (.sl (p1.map Ab))), (17, iD ((p1.length : Int))), (18, iD v4)] [(2002, .vec 3 (v3.map Ab))]) (fun v5 => mk [] []) (fun _ _ => rfl) (sm [(2002, 2001)] _ _ rfl rfl) (fun j4 n4 v4 h => ?_) (fun v5 s h hs => ?_)
  ·unfold G1 at h
   refine Ar Ac rfl (AY rfl (Ae (Ao ?_)))
   refine Ba h rfl (fun h => ?_) fun h => ?_
   ·refine An (Ao (AJ (Ar Ac rfl ?_)))
    refine Bb h fun v7 a7 b7 h => qi AP AO a7 (Af b7) rfl (qK Dk AO rfl (qz HA rfl (qs AO rfl (Ae (Ar Ac rfl (qm rfl (qL Dk AO rfl ?_)))))))
    refine BR h fun v8 a8 h => Fp [] [2002] (Hc N v3 v7 v8 a8) eF Dr rfl (CO rfl (Ae ?_))
    refine Ba h rfl (fun h => ?_) fun h => ?_
    ·refine Ar Ac rfl (qe rfl ?_)
     obtain rfl := sj h
     refine Aj (sm [] [(4, iD 4)] [] rfl rfl) (Aw ?_)
     exact ⟨⟨[_], ⟨.tmp _ _ rfl, tv⟩, rfl⟩, tv⟩
    ·refine An (Ai Ac rfl (AV rfl (qm rfl (Ae ?_))))
     exact sn [] h
   ·refine AT ?_
    exact sn [] h
  ·refine Aj hs (Ar Ac rfl (qe rfl ?_))
   obtain rfl := sj h
   refine Aj (sm [] [(4, iD 0)] [] rfl rfl) (Aw ?_)
   exact ⟨⟨[_], ⟨.tmp _ _ rfl, tv⟩, rfl⟩, tv⟩
theorem Ft (N : Nat) (p0 : List Aa) (r : (List Aa)) (h : CG N p0 = some r) : Ax Tryz.prog 15 [pD (.sl (p0.map Ab))] [(3, r.map Ab)] (oD (.own 0)) := by
 unfold CG at h
 refine Am (n := 8) (rs := [.tmp 2]) Tryz.func15 rfl rfl rfl (A0 rfl) (A0 rfl) rfl fun w0 S0 => ?_
 refine Ar Ac rfl (qa rfl (Ae (Ao (Ar Ac rfl (qm rfl ?_)))))
 refine Ox (.p rfl) rfl AP ?_
 refine Ae ?_
 refine Oc rfl (fun c2 => ?_) ?_
 ·have c2 := List.map_eq_nil_iff.1 c2
  rw [c2] at h
  have h : (some (([] : List Aa))) = some r := h
  refine Ar Ac rfl (qe rfl ?_)
  obtain rfl := sj h
  refine Aj ((Bf 2 2001 3 rfl rfl rfl).trans (sm [(1000, 2001)] [(2, oD (.own 1000))] [(1000, .vec 3 ((([] : List Aa)).map Ab))] rfl rfl)) (Aw ?_)
  exact ⟨⟨[_], ⟨.tmp _ _ rfl, tv⟩, rfl⟩, ⟨rfl, tv⟩⟩
 ·refine An (Ar Ac rfl (E5 AP AO HA rfl (qm rfl ?_)))
  refine GA h fun c1 h => HT (f := Ab) AP AP AO NZ HA (fun _ => rfl) c1 rfl (qe rfl ?_)
  obtain rfl := sj h
  refine Aj (sm [(1000, 7)] [(2, oD (.own 1000))] [(1000, .vec 3 (((([] : List Aa)) ++ p0).map Ab))] rfl rfl) (Aw ?_)
  exact ⟨⟨[_], ⟨.tmp _ _ rfl, tv⟩, rfl⟩, ⟨rfl, tv⟩⟩
theorem OF (N : Nat) (p0 : Int) (r : Int) (h : ID N p0 = some r) : Ax Tryz.prog 105 [pD (.val (.int .u32 p0))] [] (iD r) := by
 unfold ID at h
 refine Am (n := 19) (rs := [.tmp 2]) Tryz.func105 rfl rfl rfl (A0 rfl) (A0 rfl) rfl fun w0 S0 => ?_
 refine Ar Ac rfl (qe rfl ?_)
 refine AR h (fun v1 => mk [(0, pD (.val (.int .u32 v1.1))), (2, iD v1.2)] []) (fun j1 h => ?_) (fun v1 h => ?_)
 ·refine Ar Ac rfl (qm rfl (Ej rfl (Ae ?_)))
  refine Ba h rfl (fun h => ?_) fun h => ?_
  ·refine Ar Ac rfl (qm rfl (II rfl (by decide) (qa rfl (Ae (Ai Ac rfl (qe rfl ?_))))))
   exact sn [] h
  ·refine An ?_
   exact sn [] h
 ·refine AR h (fun v3 => mk [(0, pD (.val (.int .u32 v3.1))), (2, iD v3.2)] []) (fun j3 h => ?_) (fun v3 h => ?_)
  ·refine Ar Ac rfl (qm rfl (Ej rfl (Ae ?_)))
   refine Ba h rfl (fun h => ?_) fun h => ?_
   ·refine Ar Ac rfl (qm rfl (II rfl (by decide) (qa rfl (Ae (Ai Ac rfl (qm rfl (AV rfl (qe rfl ?_))))))))
    exact sn [] h
   ·refine An ?_
    exact sn [] h
  ·refine Ar Ac rfl (qm rfl (qm rfl (Ja UP dR rfl ?_)))
   refine BR h fun v5 a5 h => O1 (.p rfl) rfl rfl Zf a5 ?_
   refine Ja Z8 XX rfl (AV rfl (qe rfl ?_))
   obtain rfl := sj h
   refine Aj (sm [] [(2, iD ((wI .i64 (v3.2 + (wI .i64 v5)))))] [] rfl rfl) (Aw ?_)
   exact ⟨⟨[_], ⟨.tmp _ _ rfl, tv⟩, rfl⟩, tv⟩
theorem Oz (N : Nat) (p0 : Int) (r : Int) (h : Ix N p0 = some r) : Ax Tryz.prog 106 [pD (.val (.int .u64 p0))] [] (iD r) := by
 unfold Ix at h
 refine Am (n := 25) (rs := [.tmp 2]) Tryz.func106 rfl rfl rfl (A0 rfl) (A0 rfl) rfl fun w0 S0 => ?_
 refine Ar Ac rfl (qe rfl ?_)
 refine AR h (fun v1 => mk [(0, pD (.val (.int .u64 v1.1))), (2, iD v1.2)] []) (fun j1 h => ?_) (fun v1 h => ?_)
 ·refine Ar Ac rfl (qm rfl (Ej rfl (Ae ?_)))
  refine Ba h rfl (fun h => ?_) fun h => ?_
  ·refine Ar Ac rfl (qm rfl (II rfl (by decide) (qa rfl (Ae (Ai Ac rfl (qe rfl ?_))))))
   exact sn [] h
  ·refine An ?_
   exact sn [] h
 ·refine AR h (fun v3 => mk [(0, pD (.val (.int .u64 v3.1))), (2, iD v3.2)] []) (fun j3 h => ?_) (fun v3 h => ?_)
  ·refine Ar Ac rfl (qm rfl (Ej rfl (Ae ?_)))
   refine Ba h rfl (fun h => ?_) fun h => ?_
   ·refine Ar Ac rfl (qm rfl (II rfl (by decide) (qa rfl (Ae (Ai Ac rfl (qm rfl (AV rfl (qe rfl ?_))))))))
    exact sn [] h
   ·refine An ?_
    exact sn [] h
  ·refine AR h (fun v5 => mk [(0, pD (.val (.int .u64 v5.1))), (2, iD v5.2)] []) (fun j5 h => ?_) (fun v5 h => ?_)
   ·refine Ar Ac rfl (qm rfl (Ej rfl (Ae ?_)))
    refine Ba h rfl (fun h => ?_) fun h => ?_
    ·refine Ar Ac rfl (qm rfl (II rfl (by decide) (qa rfl (Ae (Ai Ac rfl (qm rfl (AV rfl (qe rfl ?_))))))))
     exact sn [] h
    ·refine An ?_
     exact sn [] h
   ·refine Ar Ac rfl (qm rfl (qm rfl (Ja YF dR rfl ?_)))
    refine BR h fun v7 a7 h => O1 (.p rfl) rfl rfl Zf a7 ?_
    refine Ja Z8 XX rfl (AV rfl (qe rfl ?_))
    obtain rfl := sj h
    refine Aj (sm [] [(2, iD ((wI .i64 (v5.2 + (wI .i64 v7)))))] [] rfl rfl) (Aw ?_)
    exact ⟨⟨[_], ⟨.tmp _ _ rfl, tv⟩, rfl⟩, tv⟩
theorem LX (N : Nat) (p0 : Int) (r : Int) (h : H3 N p0 = some r) : Ax Tryz.prog 71 [pD (.val (.int .u64 p0))] [] (iD r) := by
 unfold H3 at h
 refine Am (n := 8) (rs := [.tmp 2]) Tryz.func71 rfl rfl rfl (A0 rfl) (A0 rfl) rfl fun w0 S0 => ?_
 refine Ar Ac rfl (qa rfl (Ae (Ao ?_)))
 refine Ba h rfl (fun h => ?_) fun h => ?_
 ·refine Ar Ac rfl (qm rfl (Ja T7 Ux rfl ?_))
  refine BR h fun v2 a2 h => AC [] (OF N ((wI .u32 p0)) v2 a2) dG rfl (qe rfl ?_)
  obtain rfl := sj h
  refine Aj (sm [] [(2, iD v2)] [] rfl rfl) (Aw ?_)
  exact ⟨⟨[_], ⟨.tmp _ _ rfl, tv⟩, rfl⟩, tv⟩
 ·refine An (Ar Ac rfl (qm rfl ?_))
  refine BR h fun v3 a3 h => AC [] (Oz N p0 v3 a3) cr rfl (qe rfl ?_)
  obtain rfl := sj h
  refine Aj (sm [] [(2, iD v3)] [] rfl rfl) (Aw ?_)
  exact ⟨⟨[_], ⟨.tmp _ _ rfl, tv⟩, rfl⟩, tv⟩
theorem Hl (N : Nat) (p0 : List Aa) (p1 : Int) (p2 : Int) (p3 : (Aa × Aa) → Option Int) (r : (List Aa)) (h : DA N p0 p1 p2 p3 = some r) : B0 Tryz.prog 97 [oD (.own 90000), iD p1, iD p2, oD (.clo (CC (Gy true Ab true Ab) Dc p3))] [(.vec 3 (p0.map Ab), .vec 3 (r.map Ab))] [] (.tup []) := by
 unfold DA at h
 refine Bk (n := 53) (rs := []) Tryz.func97 rfl rfl rfl (A0 rfl) (A0 rfl) rfl rfl (A0 rfl) rfl (A0 rfl) fun w0 S0 GL => Pn ?_
 refine Aj (sm [] [(0, oD (.own 90000)), (1, iD p1), (2, iD p2), (3, oD (.clo (CC (Gy true Ab true Ab) Dc p3)))] [(90000, .vec 3 (p0.map Ab))] rfl rfl) (Ar Ac rfl (qm rfl (AV rfl (qe rfl ?_))))
 refine AA (L := B3 N p1 p2 p3) h (fun v1 => mk [(0, oD (.own 90000)), (1, iD p1), (2, iD p2), (3, oD (.clo (CC (Gy true Ab true Ab) Dc p3))), (8, iD v1.2)] [(90000, .vec 3 (v1.1.map Ab))]) (fun v2 => mk [] [(90000, .vec 3 (v2.map Ab))]) (fun _ _ => rfl) (sm [] _ _ rfl rfl) (fun j1 n1 v1 h => ?_) (fun v2 s h hs => ?_)
 ·unfold B3 at h
  refine Ao (Ar Ac rfl (qm rfl (qm rfl (AY rfl (Ae ?_)))))
  refine Ba h rfl (fun h => ?_) fun h => ?_
  ·refine An (Ao (AJ (Ar Ac rfl (qm rfl (qe rfl ?_)))))
   refine AA (L := B5 N p1 p3) h (fun v4 => mk [(0, oD (.own 90000)), (1, iD p1), (2, iD p2), (3, oD (.clo (CC (Gy true Ab true Ab) Dc p3))), (8, iD v1.2), (9, iD v4.2)] [(90000, .vec 3 (v4.1.map Ab))]) (fun v5 => mk [(0, oD (.own 90000)), (1, iD p1), (2, iD p2), (3, oD (.clo (CC (Gy true Ab true Ab) Dc p3))), (8, iD v1.2)] [(90000, .vec 3 (v5.map Ab))]) (fun _ _ => rfl) (sm [] _ _ rfl rfl) (fun j4 n4 v4 h => ?_) (fun v5 s h hs => ?_)
   ·unfold B5 at h
    refine Ao ?_
    refine AR h (fun v6 => mk [(0, oD (.own 90000)), (1, iD p1), (2, iD p2), (3, oD (.clo (CC (Gy true Ab true Ab) Dc p3))), (8, iD v1.2), (9, iD v4.2), (34, bD v6)] [(90000, .vec 3 (v4.1.map Ab))]) (fun j6 h => ?_) (fun v6 h => ?_)
    ·refine Ai Ac rfl (qm rfl (qm rfl (GB rfl (qm rfl ?_))))
     refine E7 21 h rfl (fun h => ?_) fun h => ?_
     ·refine qm rfl (qm rfl (qm rfl ?_))
      refine Bb h fun v8 a8 b8 h => qI AP AO a8 (Af b8) rfl (qJ Dk AO (Af b8) rfl (qm rfl (qm rfl (Dp rfl ?_))))
      refine Bb h fun v9 a9 b9 h => qI AP AO a9 (Af b9) rfl (qJ Dk AO (Af b9) rfl ?_)
      refine BR h fun v10 a10 h => Ge (ds0 := [_, _]) (ar := (Gy true Ab true Ab) ((v8, v9))) (.g rfl rfl) rfl rfl ⟨rfl, rfl, tv⟩ rfl rfl rfl (Gf (HG _ _ _ _ A3 A3) a10) ?_
      refine AY rfl (qp rfl (AI (by kernel_rfl) ?_))
      exact sn [] h
     ·refine qn rfl (qn rfl (qn rfl (qn rfl (qn rfl (qn rfl (qn rfl (qn rfl (qn rfl (qn rfl (qn rfl (qn rfl (qp rfl (AI (by kernel_rfl) ?_)))))))))))))
      exact sn [] h
    ·refine Ba h rfl (fun h => ?_) fun h => ?_
     ·refine An (Ao (AJ (Ai Ac rfl (qm rfl (qm rfl (qm rfl (qm rfl (Dp rfl (qm rfl (qm rfl (Dp rfl ?_)))))))))))
      refine Bb h fun v12 a12 b12 h => qI AP AO a12 (Af b12) rfl (qJ Dk AO (Af b12) rfl (qm rfl (qm rfl ?_)))
      refine Bb h fun v13 a13 b13 h => qI AP AO a13 (Af b13) rfl (qJ Dk AO (Af b13) rfl ?_)
      refine Bb h fun v14 a14 b14 h => qI AP AO a14 (Af b14) rfl ?_
      refine A7 rfl rfl rfl rfl (Af b14) rfl AO rfl (A0 rfl) (A4 Ab v4.1 _ v12) ?_
      refine Bb h fun v15 a15 b15 h => qI AP AO a15 (Af b15) rfl ?_
      refine A7 rfl rfl rfl rfl (Af b15) rfl AO rfl (A0 rfl) (A4 Ab (v4.1.set ((v4.2).toNat) v12) _ v13) ?_
      refine AI (by kernel_rfl) (Ai Ac rfl (qm rfl (Dp rfl (qe rfl ?_))))
      exact sn [] h
     ·refine AT ?_
      exact sn [] h
   ·refine Aj hs (Ai Ac rfl (qm rfl (AV rfl (qe rfl ?_))))
    exact sn [] h
  ·refine AT ?_
   exact sn [] h
 ·obtain rfl := sj h
  refine ⟨_, hs.trans (sm [] [] [(90000, .vec 3 (v2.map Ab))] rfl rfl), ?_⟩
  exact ⟨⟨[], tv, rfl⟩, ⟨rfl, tv⟩, tv⟩
theorem F1 (N : Nat) (p0 : List Aa) (p1 : Int) (p2 : Int) (p3 : Int) (p4 : (Aa × Aa) → Option Int) (r : (List Aa)) (h : C5 N p0 p1 p2 p3 p4 = some r) : B0 Tryz.prog 132 [oD (.own 90000), iD p1, iD p2, iD p3, oD (.clo (CC (Gy true Ab true Ab) Dc p4))] [(.vec 3 (p0.map Ab), .vec 3 (r.map Ab))] [] (.tup []) := by
 unfold C5 at h
 refine Bk (n := 82) (rs := []) Tryz.func132 rfl rfl rfl (A0 rfl) (A0 rfl) rfl rfl (A0 rfl) rfl (A0 rfl) fun w0 S0 GL => Pn ?_
 refine Aj (sm [] [(0, oD (.own 90000)), (1, iD p1), (2, iD p2), (3, iD p3), (4, oD (.clo (CC (Gy true Ab true Ab) Dc p4)))] [(90000, .vec 3 (p0.map Ab))] rfl rfl) (Ar Ac rfl (qm rfl (qe rfl ?_)))
 refine AA (L := CI N p2 p3 p4) h (fun v1 => mk [(0, oD (.own 90000)), (2, iD p2), (3, iD p3), (4, oD (.clo (CC (Gy true Ab true Ab) Dc p4))), (10, iD v1.2)] [(90000, .vec 3 (v1.1.map Ab))]) (fun v2 => mk [] [(90000, .vec 3 (v2.map Ab))]) (fun _ _ => rfl) (sm [] _ _ rfl rfl) (fun j1 n1 v1 h => ?_) (fun v2 s h hs => ?_)
 ·unfold CI at h
  refine AJ (Ar Ac rfl (qm rfl (Kj rfl (AV rfl (qa rfl (Ae (Ao (Ar Ac rfl (qm rfl (qm rfl (Ej rfl (Ae ?_))))))))))))
  refine Ba h rfl (fun h => ?_) fun h => ?_
  ·refine AT ?_
   exact sn [] h
  ·refine An ?_
   refine AR h (fun v4 => mk [(0, oD (.own 90000)), (2, iD p2), (3, iD p3), (4, oD (.clo (CC (Gy true Ab true Ab) Dc p4))), (10, iD v1.2), (11, iD v4)] [(90000, .vec 3 (v1.1.map Ab))]) (fun j4 h => ?_) (fun v4 h => ?_)
   ·refine AR h (fun v5 => mk [(0, oD (.own 90000)), (2, iD p2), (3, iD p3), (4, oD (.clo (CC (Gy true Ab true Ab) Dc p4))), (10, iD v1.2), (11, iD ((wI .i64 ((wI .i64 (2 * v1.2)) + 1)))), (40, bD v5)] [(90000, .vec 3 (v1.1.map Ab))]) (fun j5 h => ?_) (fun v5 h => ?_)
    ·refine Ai Ac rfl (qm rfl (AV rfl (qm rfl (AY rfl (qm rfl ?_)))))
     refine E7 23 h rfl (fun h => ?_) fun h => ?_
     ·refine qm rfl (qm rfl (qm rfl (qm rfl (AV rfl ?_))))
      refine Bb h fun v7 a7 b7 h => qI AP AO a7 (Af b7) rfl (qJ Dk AO (Af b7) rfl (qm rfl (qm rfl (qm rfl (AV rfl (AV rfl ?_))))))
      refine Bb h fun v8 a8 b8 h => qI AP AO a8 (Af b8) rfl (qJ Dk AO (Af b8) rfl ?_)
      refine BR h fun v9 a9 h => Ge (ds0 := [_, _]) (ar := (Gy true Ab true Ab) ((v7, v8))) (.g rfl rfl) rfl rfl ⟨rfl, rfl, tv⟩ rfl rfl rfl (Gf (HG _ _ _ _ A3 A3) a9) ?_
      refine AY rfl (qp rfl (AI (by kernel_rfl) ?_))
      exact sn [] h
     ·refine qn rfl (qn rfl (qn rfl (qn rfl (qn rfl (qn rfl (qn rfl (qn rfl (qn rfl (qn rfl (qn rfl (qn rfl (qn rfl (qn rfl (qn rfl (qn rfl (qp rfl (AI (by kernel_rfl) ?_)))))))))))))))))
      exact sn [] h
    ·refine Ba h rfl (fun h => ?_) fun h => ?_
     ·refine Ai Ac rfl (qm rfl (AV rfl (qe rfl ?_)))
      exact sn [] h
     ·refine An ?_
      exact sn [] h
   ·refine Ao (Ar Ac rfl (qm rfl (qm rfl (qm rfl (qm rfl (AV rfl ?_))))))
    refine Bb h fun v11 a11 b11 h => qI AP AO a11 (Af b11) rfl (qJ Dk AO (Af b11) rfl (qm rfl (qm rfl (qm rfl (AV rfl ?_)))))
    refine Bb h fun v12 a12 b12 h => qI AP AO a12 (Af b12) rfl (qJ Dk AO (Af b12) rfl ?_)
    refine BR h fun v13 a13 h => Ge (ds0 := [_, _]) (ar := (Gy true Ab true Ab) ((v11, v12))) (.p rfl) rfl rfl ⟨rfl, rfl, tv⟩ rfl rfl rfl (Gf (HG _ _ _ _ A3 A3) a13) ?_
    refine AY rfl (CO rfl (AI (by kernel_rfl) ?_))
    refine Ba h rfl (fun h => ?_) fun h => ?_
    ·obtain rfl := sj h
     refine Aw ⟨_, (sm [] [] [(90000, .vec 3 (v1.1.map Ab))] rfl rfl), ?_⟩
     exact ⟨⟨[], tv, rfl⟩, ⟨rfl, tv⟩, tv⟩
    ·refine An (Ar Ac rfl (qm rfl (qm rfl (qm rfl (AV rfl (qm rfl (qm rfl (qm rfl (AV rfl (qm rfl (qm rfl (qm rfl (AV rfl ?_)))))))))))))
     refine Bb h fun v15 a15 b15 h => qI AP AO a15 (Af b15) rfl (qJ Dk AO (Af b15) rfl (qm rfl (qm rfl (qm rfl (AV rfl ?_)))))
     refine Bb h fun v16 a16 b16 h => qI AP AO a16 (Af b16) rfl (qJ Dk AO (Af b16) rfl ?_)
     refine Bb h fun v17 a17 b17 h => qI AP AO a17 (Af b17) rfl ?_
     refine A7 rfl rfl rfl rfl (Af b17) rfl AO rfl (A0 rfl) (A4 Ab v1.1 _ v15) ?_
     refine Bb h fun v18 a18 b18 h => qI AP AO a18 (Af b18) rfl ?_
     refine A7 rfl rfl rfl rfl (Af b18) rfl AO rfl (A0 rfl) (A4 Ab (v1.1.set (((wI .i64 (p3 + v1.2))).toNat) v15) _ v16) ?_
     refine AI (by kernel_rfl) (Ai Ac rfl (qm rfl (qe rfl ?_)))
     exact sn [] h
 ·obtain rfl := sj h
  refine ⟨_, hs.trans (sm [] [] [(90000, .vec 3 (v2.map Ab))] rfl rfl), ?_⟩
  exact ⟨⟨[], tv, rfl⟩, ⟨rfl, tv⟩, tv⟩
theorem H1 (N : Nat) (p0 : List Aa) (p1 : Int) (p2 : Int) (p3 : (Aa × Aa) → Option Int) (r : (List Aa)) (h : D9 N p0 p1 p2 p3 = some r) : B0 Tryz.prog 98 [oD (.own 90000), iD p1, iD p2, oD (.clo (CC (Gy true Ab true Ab) Dc p3))] [(.vec 3 (p0.map Ab), .vec 3 (r.map Ab))] [] (.tup []) := by
 unfold D9 at h
 refine Bk (n := 60) (rs := []) Tryz.func98 rfl rfl rfl (A0 rfl) (A0 rfl) rfl rfl (A0 rfl) rfl (A0 rfl) fun w0 S0 GL => Pn ?_
 refine Aj (sm [] [(0, oD (.own 90000)), (1, iD p1), (2, iD p2), (3, oD (.clo (CC (Gy true Ab true Ab) Dc p3)))] [(90000, .vec 3 (p0.map Ab))] rfl rfl) (Ar Ac rfl (qm rfl (qa rfl (Ae (Ar Ac rfl (qa rfl (Ae (Ar Ac rfl (qm rfl (qm rfl (Dp rfl (qa rfl (Ae (Ao (Ar Ac rfl (qm rfl (Dp rfl (P9 rfl (by decide) (qe rfl ?_)))))))))))))))))))
 refine AA (L := CE N p1 p2 p3) h (fun v1 => mk [(0, oD (.own 90000)), (3, oD (.clo (CC (Gy true Ab true Ab) Dc p3))), (8, iD p1), (9, iD 0), (10, iD ((wI .i64 (p2 - p1)))), (11, iD v1.2)] [(90000, .vec 3 (v1.1.map Ab))]) (fun v2 => mk [(0, oD (.own 90000)), (3, oD (.clo (CC (Gy true Ab true Ab) Dc p3))), (8, iD p1), (9, iD 0), (10, iD ((wI .i64 (p2 - p1))))] [(90000, .vec 3 (v2.map Ab))]) (fun _ _ => rfl) (sm [] _ _ rfl rfl) (fun j1 n1 v1 h => ?_) (fun v2 s h hs => ?_)
 ·unfold CE at h
  refine Ao (Ar Ac rfl (qm rfl (Ej rfl (Ae ?_))))
  refine Ba h rfl (fun h => ?_) fun h => ?_
  ·refine An (Ao (AJ (Ai Ac rfl (qm rfl (qm rfl (qm rfl (qm rfl (qm rfl ?_))))))))
   refine BR h fun v4 a4 h => DT (ds0 := [_, _, _, _, _]) [90000] [] [true] (F1 N v1.1 v1.2 ((wI .i64 (p2 - p1))) p1 p3 v4 a4) (.p rfl) af rfl ⟨rfl, rfl, rfl, rfl, rfl, tv⟩ rfl rfl (by decide) ⟨rfl, tv⟩ rfl (Be rfl) tv ⟨(fun h => by cases h), tv⟩ rfl rfl rfl ?_
   refine Ae (Ai Ac rfl (qm rfl (Dp rfl (qe rfl ?_))))
   exact sn [] h
  ·refine AT ?_
   exact sn [] h
 ·refine Aj hs (Ar Ac rfl (qm rfl (Dp rfl (qe rfl ?_))))
  refine AA (L := CH N p1 p3) h (fun v5 => mk [(0, oD (.own 90000)), (3, oD (.clo (CC (Gy true Ab true Ab) Dc p3))), (8, iD p1), (9, iD 0), (12, iD v5.2)] [(90000, .vec 3 (v5.1.map Ab))]) (fun v6 => mk [] [(90000, .vec 3 (v6.map Ab))]) (fun _ _ => rfl) (sm [] _ _ rfl rfl) (fun j5 n5 v5 h => ?_) (fun v6 s h hs => ?_)
  ·unfold CH at h
   refine Ao (Ar Ac rfl (qm rfl (Ej rfl (Ae ?_))))
   refine Ba h rfl (fun h => ?_) fun h => ?_
   ·refine An (Ao (AJ (Ar Ac rfl (qm rfl (qm rfl (qm rfl (qm rfl (qm rfl (AV rfl (qm rfl (qm rfl (qm rfl (AV rfl ?_)))))))))))))
    refine Bb h fun v8 a8 b8 h => qI AP AO a8 (Af b8) rfl (qJ Dk AO (Af b8) rfl (qm rfl (qm rfl ?_)))
    refine Bb h fun v9 a9 b9 h => qI AP AO a9 (Af b9) rfl (qJ Dk AO (Af b9) rfl ?_)
    refine Bb h fun v10 a10 b10 h => qI AP AO a10 (Af b10) rfl ?_
    refine A7 rfl rfl rfl rfl (Af b10) rfl AO rfl (A0 rfl) (A4 Ab v5.1 _ v8) ?_
    refine Bb h fun v11 a11 b11 h => qI AP AO a11 (Af b11) rfl ?_
    refine A7 rfl rfl rfl rfl (Af b11) rfl AO rfl (A0 rfl) (A4 Ab (v5.1.set ((p1).toNat) v8) _ v9) ?_
    refine AI (by kernel_rfl) (Ai Ac rfl (qm rfl (qm rfl (qm rfl (qm rfl (qm rfl ?_))))))
    refine BR h fun v12 a12 h => DT (ds0 := [_, _, _, _, _]) [90000] [] [true] (F1 N ((v5.1.set ((p1).toNat) v8).set (((wI .i64 (p1 + v5.2))).toNat) v9) 0 v5.2 p1 p3 v12 a12) (.p rfl) af rfl ⟨rfl, rfl, rfl, rfl, rfl, tv⟩ rfl rfl (by decide) ⟨rfl, tv⟩ rfl (Be rfl) tv ⟨(fun h => by cases h), tv⟩ rfl rfl rfl ?_
    refine Ae (Ai Ac rfl (qm rfl (Dp rfl (qe rfl ?_))))
    exact sn [] h
   ·refine AT ?_
    exact sn [] h
  ·obtain rfl := sj h
   refine ⟨_, hs.trans (sm [] [] [(90000, .vec 3 (v6.map Ab))] rfl rfl), ?_⟩
   exact ⟨⟨[], tv, rfl⟩, ⟨rfl, tv⟩, tv⟩
theorem Lh (N : Nat) (p0 : Int) (r : Int) (h : GX N p0 = some r) : Ax Tryz.prog 133 [iD p0] [] (pD (.val (.int .u64 r))) := by
 unfold GX at h
 refine Am (n := 7) (rs := [.tmp 2]) Tryz.func133 rfl rfl rfl (A0 rfl) (A0 rfl) rfl fun w0 S0 => ?_
 refine Ar Ac rfl (qa rfl (Ae (Ar Ac rfl (qm rfl (Ja bq R0 rfl ?_)))))
 refine BR h fun v1 a1 h => AC [] (LX N ((wI .u64 p0)) v1 a1) cx rfl ?_
 refine GA h fun c2 h => Jy rfl c2 (qe rfl ?_)
 obtain rfl := sj h
 refine Aj (sm [] [(2, pD (.val (.int .u64 ((Dw .u64 1 v1)))))] [] rfl rfl) (Aw ?_)
 exact ⟨⟨[_], ⟨.tmp _ _ rfl, tv⟩, rfl⟩, tv⟩
theorem LH (N : Nat) (p0 : Int) (r : Int × Int) (h : Hb N p0 = some r) : B0 Tryz.prog 134 [oD (.ptr 90000 0)] [(.box [.pure (.val (.int .u64 p0))], .box [.pure (.val (.int .u64 r.2))])] [] (pD (.val (.int .u64 r.1))) := by
 unfold Hb at h
 refine Bk (n := 33) (rs := [.tmp 2]) Tryz.func134 rfl rfl rfl (A0 rfl) (A0 rfl) rfl rfl (A0 rfl) rfl (A0 rfl) fun w0 S0 GL => ?_
 refine Aj (sm [] [(0, oD (.ptr 90000 0))] [(90000, .box [.pure (.val (.int .u64 p0))])] rfl rfl) (Ar Ac rfl (qa rfl (Ae (Ar Ac rfl (qm rfl (Q8 rfl (ql Q1 rfl (qm rfl (Q8 rfl (ql Q1 rfl (Jy rfl (by decide) (Xw rfl (Q8 rfl (qs VP rfl (AI (by kernel_rfl) (Ar Ac rfl (qm rfl (Q8 rfl (ql Q1 rfl (qm rfl (Q8 rfl (ql Q1 rfl (II rfl (by decide) (Xw rfl (Q8 rfl (qs VP rfl (AI (by kernel_rfl) (Ar Ac rfl (qm rfl (Q8 rfl (ql Q1 rfl (qm rfl (Q8 rfl (ql Q1 rfl (Jy rfl (by decide) ?_)))))))))))))))))))))))))))))))))))
 refine Xw rfl (Q8 rfl (qs VP rfl (AI (by kernel_rfl) (Ar Ac rfl (qm rfl (Q8 rfl (ql Q1 rfl (qe rfl ?_))))))))
 obtain rfl := sj h
 refine Aj (sm [] [(2, pD (.val (.int .u64 ((IH .u64 ((IH .u64 ((IH .u64 p0 ((Dw .u64 p0 13)))) ((FA .u64 ((IH .u64 p0 ((Dw .u64 p0 13)))) 7)))) ((Dw .u64 ((IH .u64 ((IH .u64 p0 ((Dw .u64 p0 13)))) ((FA .u64 ((IH .u64 p0 ((Dw .u64 p0 13)))) 7)))) 17)))))))] [(90000, .box [.pure (.val (.int .u64 ((IH .u64 ((IH .u64 ((IH .u64 p0 ((Dw .u64 p0 13)))) ((FA .u64 ((IH .u64 p0 ((Dw .u64 p0 13)))) 7)))) ((Dw .u64 ((IH .u64 ((IH .u64 p0 ((Dw .u64 p0 13)))) ((FA .u64 ((IH .u64 p0 ((Dw .u64 p0 13)))) 7)))) 17))))))])] rfl rfl) (Aw ?_)
 exact ⟨⟨[_], ⟨.tmp _ _ rfl, tv⟩, rfl⟩, ⟨rfl, tv⟩, tv⟩
theorem Hg (N : Nat) (p0 : List Aa) (p1 : Int) (p2 : Int) (p3 : (Aa × Aa) → Option Int) (r : (List Aa)) (h : DC N p0 p1 p2 p3 = some r) : B0 Tryz.prog 99 [oD (.own 90000), iD p1, iD p2, oD (.clo (CC (Gy true Ab true Ab) Dc p3))] [(.vec 3 (p0.map Ab), .vec 3 (r.map Ab))] [] (.tup []) := by
 unfold DC at h
 refine Bk (n := 67) (rs := []) Tryz.func99 rfl rfl rfl (A0 rfl) (A0 rfl) rfl rfl (A0 rfl) rfl (A0 rfl) fun w0 S0 GL => Pn ?_
 refine Aj (sm [] [(0, oD (.own 90000)), (1, iD p1), (2, iD p2), (3, oD (.clo (CC (Gy true Ab true Ab) Dc p3)))] [(90000, .vec 3 (p0.map Ab))] rfl rfl) (Ar Ac rfl (qm rfl (qm rfl (Dp rfl (qa rfl (Ae (Ar Ac rfl (qm rfl (Ej rfl (Ae ?_))))))))))
 refine Ba h rfl (fun h => ?_) fun h => ?_
 ·refine Ar Ac rfl (qm rfl (Ja bq cv rfl (qz dL rfl (qs VP rfl (Ae (Ar Ac rfl (qm rfl ?_)))))))
  refine BR h fun v2 a2 h => AC [] (Lh N ((wI .i64 (p2 - p1))) v2 a2) cj rfl (qa rfl (Ae (Ar Ac rfl (qm rfl (qm rfl (P9 rfl (by decide) (Kj rfl (AV rfl (Dp rfl (qe rfl ?_))))))))))
  refine AA (L := B4 N p1 p2 v2) h (fun v3 => mk [(0, oD (.own 90000)), (1, iD p1), (8, iD ((wI .i64 (p2 - p1)))), (9, oD (.ptr 9 0)), (10, pD (.val (.int .u64 v2))), (11, iD v3.2.2)] [(9, .box [.pure (.val (.int .u64 v3.2.1))]), (90000, .vec 3 (v3.1.map Ab))]) (fun v4 => mk [] [(90000, .vec 3 (v4.map Ab))]) (fun _ _ => rfl) (sm [] _ _ rfl rfl) (fun j3 n3 v3 h => ?_) (fun v4 s h hs => ?_)
  ·unfold B4 at h
   refine Ao (Ar Ac rfl (qm rfl (qm rfl (qm rfl (P9 rfl (by decide) (Kj rfl (AV rfl (AV rfl (KT rfl (Ae ?_))))))))))
   refine Ba h rfl (fun h => ?_) fun h => ?_
   ·refine An (Ao (AJ (Ar Ac rfl ?_)))
    refine BR h fun v6 a6 h => DT (ds0 := [_]) [9] [] [true] (LH N v3.2.1 v6 a6) (.p rfl) dp rfl ⟨rfl, tv⟩ rfl rfl (by decide) ⟨rfl, tv⟩ rfl (Be rfl) tv ⟨(fun h => by cases h), tv⟩ rfl rfl rfl ?_
    refine qm rfl (Dp rfl (M5 rfl (Ja T7 XX rfl (qe rfl ?_))))
    refine AR h (fun v7 => mk [(0, oD (.own 90000)), (1, iD p1), (8, iD ((wI .i64 (p2 - p1)))), (9, oD (.ptr 9 0)), (10, pD (.val (.int .u64 v2))), (11, iD v3.2.2), (12, iD v7)] [(9, .box [.pure (.val (.int .u64 v6.2))]), (90000, .vec 3 (v3.1.map Ab))]) (fun j7 h => ?_) (fun v7 h => ?_)
    ·refine Ar Ac rfl (qm rfl (qm rfl (Ej rfl (Ae ?_))))
     refine Ba h rfl (fun h => ?_) fun h => ?_
     ·refine Ai Ac rfl (qm rfl (qm rfl (Dp rfl (qe rfl ?_))))
      exact sn [] h
     ·refine An ?_
      exact sn [] h
    ·refine Ai Ac rfl (qm rfl (qm rfl (qm rfl (qm rfl (qm rfl (AV rfl (qm rfl (qm rfl (qm rfl (AV rfl ?_))))))))))
     refine Bb h fun v9 a9 b9 h => qI AP AO a9 (Af b9) rfl (qJ Dk AO (Af b9) rfl (qm rfl (qm rfl ?_)))
     refine Bb h fun v10 a10 b10 h => qI AP AO a10 (Af b10) rfl (qJ Dk AO (Af b10) rfl ?_)
     refine Bb h fun v11 a11 b11 h => qI AP AO a11 (Af b11) rfl ?_
     refine A7 rfl rfl rfl rfl (Af b11) rfl AO rfl (A0 rfl) (A4 Ab v3.1 _ v9) ?_
     refine Bb h fun v12 a12 b12 h => qI AP AO a12 (Af b12) rfl ?_
     refine A7 rfl rfl rfl rfl (Af b12) rfl AO rfl (A0 rfl) (A4 Ab (v3.1.set ((v3.2.2).toNat) v9) _ v10) ?_
     refine AI (by kernel_rfl) (Ai Ac rfl (qm rfl (AV rfl (qe rfl ?_))))
     exact sn [] h
   ·refine AT ?_
    exact sn [] h
  ·obtain rfl := sj h
   refine ⟨_, hs.trans (sm [] [] [(90000, .vec 3 (v4.map Ab))] rfl rfl), ?_⟩
   exact ⟨⟨[], tv, rfl⟩, ⟨rfl, tv⟩, tv⟩
 ·refine An ?_
  obtain rfl := sj h
  refine ⟨_, (sm [] [] [(90000, .vec 3 (p0.map Ab))] rfl rfl), ?_⟩
  exact ⟨⟨[], tv, rfl⟩, ⟨rfl, tv⟩, tv⟩
theorem EJ (N : Nat) (p0 : List Aa) (p1 : Int) (p2 : Int) (p3 : Int) (p4 : (Aa × Aa) → Option Int) (r : Int × Int × Int) (h : Cp N p0 p1 p2 p3 p4 = some r) : B0 Tryz.prog 153 [pD (.sl (p0.map Ab)), iD p1, iD p2, oD (.ptr 90000 0), oD (.clo (CC (Gy true Ab true Ab) Dc p4))] [(.box [iC p3], .box [iC r.2.2])] [] (.tup [.one (iC r.1), .one (iC r.2.1)]) := by
 unfold Cp at h
 refine Bk (n := 32) (rs := [.tmp 10, .tmp 11]) Tryz.func153 rfl rfl rfl (A0 rfl) (A0 rfl) rfl rfl (A0 rfl) rfl (A0 rfl) fun w0 S0 GL => ?_
 refine Aj (sm [] [(0, pD (.sl (p0.map Ab))), (1, iD p1), (2, iD p2), (3, oD (.ptr 90000 0)), (4, oD (.clo (CC (Gy true Ab true Ab) Dc p4)))] [(90000, .box [iC p3])] rfl rfl) (Ar Ac rfl (qa rfl (qa rfl (Ae (Ao (Ar Ac rfl (qm rfl (qm rfl (qm rfl ?_)))))))))
 refine Bb h fun v1 a1 b1 h => qi AP AO a1 (Af b1) rfl (qK Dk AO rfl (qm rfl (qm rfl ?_)))
 refine Bb h fun v2 a2 b2 h => qi AP AO a2 (Af b2) rfl (qK Dk AO rfl ?_)
 refine BR h fun v3 a3 h => Ge (ds0 := [_, _]) (ar := (Gy true Ab true Ab) ((v1, v2))) (.p rfl) rfl rfl ⟨rfl, rfl, tv⟩ rfl rfl rfl (Gf (HG _ _ _ _ A3 A3) a3) ?_
 refine AY rfl (AI (by kernel_rfl) ?_)
 refine Ba h rfl (fun h => ?_) fun h => ?_
 ·refine Ar Ac rfl (qm rfl (Q8 rfl (ql CV rfl (AV rfl (Q8 rfl (qs Et rfl (Ae (Ar Ac rfl (qm rfl (qm rfl (qa rfl (qe rfl ?_))))))))))))
  obtain rfl := sj h
  refine Aj (sm [] [(10, iD p2), (11, iD p1)] [(90000, .box [iC ((wI .i64 (p3 + 1)))])] rfl rfl) (Aw ?_)
  exact ⟨⟨[_, _], ⟨.tmp _ _ rfl, ⟨.tmp _ _ rfl, tv⟩⟩, rfl⟩, ⟨rfl, tv⟩, tv⟩
 ·refine An (Ar Ac rfl (qm rfl (qm rfl (qa rfl (qe rfl ?_)))))
  obtain rfl := sj h
  refine Aj (sm [] [(10, iD p1), (11, iD p2)] [(90000, .box [iC p3])] rfl rfl) (Aw ?_)
  exact ⟨⟨[_, _], ⟨.tmp _ _ rfl, ⟨.tmp _ _ rfl, tv⟩⟩, rfl⟩, ⟨rfl, tv⟩, tv⟩
theorem Gl (N : Nat) (p0 : List Aa) (p1 : Int) (p2 : Int) (p3 : Int) (p4 : Int) (p5 : (Aa × Aa) → Option Int) (r : Int × Int) (h : Dj N p0 p1 p2 p3 p4 p5 = some r) : B0 Tryz.prog 136 [pD (.sl (p0.map Ab)), iD p1, iD p2, iD p3, oD (.ptr 90000 0), oD (.clo (CC (Gy true Ab true Ab) Dc p5))] [(.box [iC p4], .box [iC r.2])] [] (iD r.1) := by
 unfold Dj at h
 refine Bk (n := 41) (rs := [.tmp 12]) Tryz.func136 rfl rfl rfl (A0 rfl) (A0 rfl) rfl rfl (A0 rfl) rfl (A0 rfl) fun w0 S0 GL => ?_
 refine Aj (sm [] [(0, pD (.sl (p0.map Ab))), (1, iD p1), (2, iD p2), (3, iD p3), (4, oD (.ptr 90000 0)), (5, oD (.clo (CC (Gy true Ab true Ab) Dc p5)))] [(90000, .box [iC p4])] rfl rfl) (Ar Ac rfl (qa rfl (Ae (Ar Ac rfl (qm rfl (qm rfl (qm rfl (qm rfl (qm rfl ?_)))))))))
 refine BR h fun v1 a1 h => DT (ds0 := [_, _, _, _, _]) [90000] [] [true] (EJ N p0 p1 p2 p4 p5 v1 a1) (.p rfl) Yw rfl ⟨rfl, rfl, rfl, rfl, rfl, tv⟩ rfl rfl (by decide) ⟨rfl, tv⟩ rfl (Be rfl) tv ⟨(fun h => by cases h), tv⟩ rfl rfl rfl ?_
 refine qm rfl (qx rfl (qx rfl (qa rfl (qa rfl (Ae (Ar Ac rfl (qm rfl (qm rfl (qm rfl (qm rfl (qm rfl ?_)))))))))))
 refine BR h fun v2 a2 h => DT (ds0 := [_, _, _, _, _]) [90000] [] [true] (EJ N p0 v1.2.1 p3 v1.2.2 p5 v2 a2) (.p rfl) Yw rfl ⟨rfl, rfl, rfl, rfl, rfl, tv⟩ rfl rfl (by decide) ⟨rfl, tv⟩ rfl (Be rfl) tv ⟨(fun h => by cases h), tv⟩ rfl rfl rfl ?_
 refine qm rfl (qx rfl (qx rfl (qa rfl (qa rfl (Ae (Ar Ac rfl (qm rfl (qm rfl (qm rfl (qm rfl (qm rfl ?_)))))))))))
 refine BR h fun v3 a3 h => DT (ds0 := [_, _, _, _, _]) [90000] [] [true] (EJ N p0 v1.1 v2.1 v2.2.2 p5 v3 a3) (.p rfl) Yw rfl ⟨rfl, rfl, rfl, rfl, rfl, tv⟩ rfl rfl (by decide) ⟨rfl, tv⟩ rfl (Be rfl) tv ⟨(fun h => by cases h), tv⟩ rfl rfl rfl ?_
 refine qm rfl (qx rfl (qx rfl (qa rfl (qa rfl (Ae (Ar Ac rfl (qm rfl (qe rfl ?_))))))))
 obtain rfl := sj h
 refine Aj (sm [] [(12, iD v3.2.1)] [(90000, .box [iC v3.2.2])] rfl rfl) (Aw ?_)
 exact ⟨⟨[_], ⟨.tmp _ _ rfl, tv⟩, rfl⟩, ⟨rfl, tv⟩, tv⟩
theorem DB (N : Nat) (p0 : List Aa) (p1 : Int) (p2 : Int) (p3 : (Aa × Aa) → Option Int) (r : Int × Int) (h : BB N p0 p1 p2 p3 = some r) : B0 Tryz.prog 135 [pD (.sl (p0.map Ab)), iD p1, oD (.ptr 90000 0), oD (.clo (CC (Gy true Ab true Ab) Dc p3))] [(.box [iC p2], .box [iC r.2])] [] (iD r.1) := by
 unfold BB at h
 refine Bk (n := 18) (rs := [.tmp 8]) Tryz.func135 rfl rfl rfl (A0 rfl) (A0 rfl) rfl rfl (A0 rfl) rfl (A0 rfl) fun w0 S0 GL => ?_
 refine Aj (sm [] [(0, pD (.sl (p0.map Ab))), (1, iD p1), (2, oD (.ptr 90000 0)), (3, oD (.clo (CC (Gy true Ab true Ab) Dc p3)))] [(90000, .box [iC p2])] rfl rfl) (Ar Ac rfl (qa rfl (Ae (Ar Ac rfl (qm rfl (qm rfl (Dp rfl (qm rfl (qm rfl (AV rfl (qm rfl (qm rfl ?_))))))))))))
 refine BR h fun v1 a1 h => DT (ds0 := [_, _, _, _, _, _]) [90000] [] [true] (Gl N p0 ((wI .i64 (p1 - 1))) p1 ((wI .i64 (p1 + 1))) p2 p3 v1 a1) (.p rfl) ax rfl ⟨rfl, rfl, rfl, rfl, rfl, rfl, tv⟩ rfl rfl (by decide) ⟨rfl, tv⟩ rfl (Be rfl) tv ⟨(fun h => by cases h), tv⟩ rfl rfl rfl ?_
 refine qa rfl (Ae ?_)
 obtain rfl := sj h
 refine Aj (sm [] [(8, iD v1.1)] [(90000, .box [iC v1.2])] rfl rfl) (Aw ?_)
 exact ⟨⟨[_], ⟨.tmp _ _ rfl, tv⟩, rfl⟩, ⟨rfl, tv⟩, tv⟩
theorem Hz (N : Nat) (p0 : List Aa) (p1 : Int) (p2 : Int) (p3 : (Aa × Aa) → Option Int) (r : Int × Int) (h : DR N p0 p1 p2 p3 = some r) : Ax Tryz.prog 100 [pD (.sl (p0.map Ab)), iD p1, iD p2, oD (.clo (CC (Gy true Ab true Ab) Dc p3))] [] (.tup [.one (iC r.1), .one (iC r.2)]) := by
 unfold DR at h
 refine Am (n := 63) (rs := [.tmp 8, .tmp 9]) Tryz.func100 rfl rfl rfl (A0 rfl) (A0 rfl) rfl fun w0 S0 => ?_
 refine Ar Ac rfl (qa rfl (qa rfl (Ae (Ar Ac rfl (qm rfl (qm rfl (Dp rfl (qa rfl (Ae (Ar Ac rfl (qz Lt rfl (Ae (Ar Ac rfl (qm rfl (qm rfl (P9 rfl (by decide) (Kj rfl (AV rfl (qa rfl (Ae (Ar Ac rfl (qm rfl (qm rfl (P9 rfl (by decide) (Kj rfl (AV rfl (qa rfl (Ae (Ar Ac rfl (qm rfl (qm rfl (P9 rfl (by decide) (Kj rfl ?_)))))))))))))))))))))))))))))))))
 refine AV rfl (qe rfl ?_)
 refine AR h (fun v1 => mk [(11, oD (.ptr 11 0)), (13, iD v1.2)] [(11, .box [iC v1.1])]) (fun j1 h => ?_) (fun v1 h => ?_)
 ·refine Ar Ac rfl (qm rfl (Ej rfl (Ae ?_)))
  refine Ba h rfl (fun h => ?_) fun h => ?_
  ·refine AR h (fun v3 => mk [(0, pD (.sl (p0.map Ab))), (3, oD (.clo (CC (Gy true Ab true Ab) Dc p3))), (11, oD (.ptr 11 0)), (12, iD v3.2.1), (13, iD v3.2.2.1), (14, iD v3.2.2.2)] [(11, .box [iC v3.1])]) (fun j3 h => ?_) (fun v3 h => ?_)
   ·refine Ar Ac rfl (qm rfl (Ej rfl (Ae ?_)))
    refine Ba h rfl (fun h => ?_) fun h => ?_
    ·refine Ar Ac rfl (qm rfl (qm rfl (qm rfl ?_)))
     refine BR h fun v5 a5 h => DT (ds0 := [_, _, _, _]) [11] [] [true] (DB N p0 ((wI .i64 (p1 + (wI .i64 ((wI .i64 (Int.tdiv ((wI .i64 (p2 - p1))) 4)) * 1))))) 0 p3 v5 a5) (.p rfl) XH rfl ⟨rfl, rfl, rfl, rfl, tv⟩ rfl rfl (by decide) ⟨rfl, tv⟩ rfl (Be rfl) tv ⟨(fun h => by cases h), tv⟩ rfl rfl rfl ?_
     refine qa rfl (Ae (Ar Ac rfl (qm rfl (qm rfl (qm rfl ?_)))))
     refine BR h fun v6 a6 h => DT (ds0 := [_, _, _, _]) [11] [] [true] (DB N p0 ((wI .i64 (p1 + (wI .i64 ((wI .i64 (Int.tdiv ((wI .i64 (p2 - p1))) 4)) * 2))))) v5.2 p3 v6 a6) (.p rfl) XH rfl ⟨rfl, rfl, rfl, rfl, tv⟩ rfl rfl (by decide) ⟨rfl, tv⟩ rfl (Be rfl) tv ⟨(fun h => by cases h), tv⟩ rfl rfl rfl ?_
     refine qa rfl (Ae (Ai Ac rfl (qm rfl (qm rfl (qm rfl ?_)))))
     refine BR h fun v7 a7 h => DT (ds0 := [_, _, _, _]) [11] [] [true] (DB N p0 ((wI .i64 (p1 + (wI .i64 ((wI .i64 (Int.tdiv ((wI .i64 (p2 - p1))) 4)) * 3))))) v6.2 p3 v7 a7) (.p rfl) XH rfl ⟨rfl, rfl, rfl, rfl, tv⟩ rfl rfl (by decide) ⟨rfl, tv⟩ rfl (Be rfl) tv ⟨(fun h => by cases h), tv⟩ rfl rfl rfl ?_
     refine qa rfl (Ae ?_)
     exact sn [] h
    ·refine An ?_
     exact sn [] h
   ·refine Ai Ac rfl (qm rfl (qm rfl (qm rfl (qm rfl (qm rfl ?_)))))
    refine BR h fun v8 a8 h => DT (ds0 := [_, _, _, _, _, _]) [11] [] [true] (Gl N p0 v3.2.1 v3.2.2.1 v3.2.2.2 v3.1 p3 v8 a8) (.p rfl) ax rfl ⟨rfl, rfl, rfl, rfl, rfl, rfl, tv⟩ rfl rfl (by decide) ⟨rfl, tv⟩ rfl (Be rfl) tv ⟨(fun h => by cases h), tv⟩ rfl rfl rfl ?_
    refine qa rfl (Ae ?_)
    exact sn [] h
  ·refine An ?_
   exact sn [] h
 ·refine Ar Ac rfl (ql CV rfl (Ae (AJ (Ar Ac rfl (B9 rfl (qe rfl ?_))))))
  refine Ba h rfl (fun h => ?_) fun h => ?_
  ·refine Ar Ac rfl (qm rfl (qa rfl (qe rfl ?_)))
   obtain rfl := sj h
   refine Aj (sm [] [(8, iD v1.2), (9, iD 1)] [] rfl rfl) (Aw ?_)
   exact ⟨⟨[_, _], ⟨.tmp _ _ rfl, ⟨.tmp _ _ rfl, tv⟩⟩, rfl⟩, tv⟩
  ·refine Ar Ac rfl (B9 rfl (qe rfl ?_))
   refine Ba h rfl (fun h => ?_) fun h => ?_
   ·refine Ar Ac rfl (qm rfl (qa rfl (qe rfl ?_)))
    obtain rfl := sj h
    refine Aj (sm [] [(8, iD v1.2), (9, iD 2)] [] rfl rfl) (Aw ?_)
    exact ⟨⟨[_, _], ⟨.tmp _ _ rfl, ⟨.tmp _ _ rfl, tv⟩⟩, rfl⟩, tv⟩
   ·refine Ar Ac rfl (qm rfl (qa rfl (qe rfl ?_)))
    obtain rfl := sj h
    refine Aj (sm [] [(8, iD v1.2), (9, iD 0)] [] rfl rfl) (Aw ?_)
    exact ⟨⟨[_, _], ⟨.tmp _ _ rfl, ⟨.tmp _ _ rfl, tv⟩⟩, rfl⟩, tv⟩
theorem Hs (N : Nat) (p0 : List Aa) (p1 : Int) (p2 : Int) (p3 : (Aa × Aa) → Option Int) (r : (List Aa)) (h : DN N p0 p1 p2 p3 = some r) : B0 Tryz.prog 101 [oD (.own 90000), iD p1, iD p2, oD (.clo (CC (Gy true Ab true Ab) Dc p3))] [(.vec 3 (p0.map Ab), .vec 3 (r.map Ab))] [] (.tup []) := by
 unfold DN at h
 refine Bk (n := 34) (rs := []) Tryz.func101 rfl rfl rfl (A0 rfl) (A0 rfl) rfl rfl (A0 rfl) rfl (A0 rfl) fun w0 S0 GL => Pn ?_
 refine Aj (sm [] [(0, oD (.own 90000)), (1, iD p1), (2, iD p2), (3, oD (.clo (CC (Gy true Ab true Ab) Dc p3)))] [(90000, .vec 3 (p0.map Ab))] rfl rfl) (Ar Ac rfl (qm rfl (qa rfl (Ae (Ar Ac rfl (qm rfl (Dp rfl (qe rfl ?_))))))))
 refine AA (L := Cb N) h (fun v1 => mk [(0, oD (.own 90000)), (8, iD v1.2.1), (9, iD v1.2.2)] [(90000, .vec 3 (v1.1.map Ab))]) (fun v2 => mk [] [(90000, .vec 3 (v2.map Ab))]) (fun _ _ => rfl) (sm [] _ _ rfl rfl) (fun j1 n1 v1 h => ?_) (fun v2 s h hs => ?_)
 ·unfold Cb at h
  refine Ao (Ar Ac rfl (qm rfl (qm rfl (AY rfl (Ae ?_)))))
  refine Ba h rfl (fun h => ?_) fun h => ?_
  ·refine An (AJ (Ar Ac rfl (qm rfl (qm rfl (qm rfl (qm rfl (qm rfl (qm rfl ?_))))))))
   refine Bb h fun v4 a4 b4 h => qI AP AO a4 (Af b4) rfl (qJ Dk AO (Af b4) rfl (qm rfl (qm rfl ?_)))
   refine Bb h fun v5 a5 b5 h => qI AP AO a5 (Af b5) rfl (qJ Dk AO (Af b5) rfl ?_)
   refine Bb h fun v6 a6 b6 h => qI AP AO a6 (Af b6) rfl ?_
   refine A7 rfl rfl rfl rfl (Af b6) rfl AO rfl (A0 rfl) (A4 Ab v1.1 _ v4) ?_
   refine Bb h fun v7 a7 b7 h => qI AP AO a7 (Af b7) rfl ?_
   refine A7 rfl rfl rfl rfl (Af b7) rfl AO rfl (A0 rfl) (A4 Ab (v1.1.set ((v1.2.1).toNat) v4) _ v5) ?_
   refine AI (by kernel_rfl) (Ar Ac rfl (qm rfl (AV rfl (qa rfl (Ae (Ai Ac rfl (qm rfl (Dp rfl (qe rfl ?_)))))))))
   exact sn [] h
  ·refine AT ?_
   exact sn [] h
 ·obtain rfl := sj h
  refine ⟨_, hs.trans (sm [] [] [(90000, .vec 3 (v2.map Ab))] rfl rfl), ?_⟩
  exact ⟨⟨[], tv, rfl⟩, ⟨rfl, tv⟩, tv⟩
end Go.Lift
