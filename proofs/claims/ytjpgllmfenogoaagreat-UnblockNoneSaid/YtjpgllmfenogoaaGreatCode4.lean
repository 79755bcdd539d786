/- Lemmas for UnblockNoneSaid, which YtjpgllmfenogoaaGreatFinU3 proves. -/
import Derived.Test.YtjpgllmfenogoaaGreatCode1
namespace Go.Lift
set_option maxRecDepth 10000
open Go.RowKit
open Go.Proofs
theorem ME (N : Nat) (p0 : Ae) (p1 : Ag) (r : Int) (h : FG N p0 p1 = some r) : Ay Tryz.prog 112 [.e (.agg (Al p0)), .e (.agg (AR p1))] [] (iD r) := by
 unfold FG at h
 refine An (n := 154) (rs := [.tmp 4]) Tryz.func112 rfl rfl rfl (A2 rfl) (A2 rfl) rfl fun w0 S0 => ?_
 refine As Ac rfl (qb rfl (qb rfl (qa rfl (Ad (Ap (As Ac rfl (qL D0 CX rfl ?_)))))))
 obtain ⟨v1, a1, h⟩ := bind_some h
 refine AF [] (HP N p0 v1 a1) bE rfl (qa rfl (Ad (As Ac rfl (qm rfl (CU rfl (Ad ?_))))))
 refine Bd h rfl (fun h => ?_) fun h => ?_
 ·refine As Ac rfl (qm rfl (qa rfl (Ad ?_)))
  obtain rfl := sj h
  refine Ak (sm [] [(4, iD v1)] [] rfl rfl) (Ax ?_)
  exact ⟨⟨[_], ⟨.tmp _ _ rfl, tv⟩, rfl⟩, tv⟩
 ·refine Ao (As Ac rfl (qf BD rfl (ql Bi rfl (AZ AG rfl (qa rfl (Ad (Ap ?_)))))))
  refine AU h (fun v3 => mk [(2, oD (.ptr 2 0)), (3, oD (.ptr 3 0)), (6, iD ((p0.fb.length : Int))), (39, bD v3)] [(2, .box (Al p0)), (3, .box (AR p1))]) (fun j3 h => ?_) (fun v3 h => ?_)
  ·refine Aj Ac rfl (qf DY rfl (ql Bi rfl (AZ AG rfl (qm rfl (CU rfl (qm rfl ?_))))))
   refine E1 24 h rfl (fun h => ?_) fun h => ?_
   ·refine qn rfl (qn rfl (qn rfl (qn rfl (qn rfl (qp rfl (qm rfl (qn rfl (qn rfl (qn rfl (qn rfl (qn rfl (qn rfl (qn rfl (qp rfl (Ad ?_)))))))))))))))
    exact sn [] h
   ·refine qf B8 rfl (ql Bi rfl (AZ AG rfl (qm rfl (CU rfl (qp rfl (qm rfl ?_))))))
    refine E1 31 h rfl (fun h => ?_) fun h => ?_
    ·refine qn rfl (qn rfl (qn rfl (qn rfl (qn rfl (qn rfl (qn rfl (qp rfl (Ad ?_))))))))
     exact sn [] h
    ·refine qf DF rfl (ql II rfl (AZ EO rfl (qf BG rfl (ql Gy rfl (AZ C6 rfl (CU rfl (qp rfl (Ad ?_))))))))
     exact sn [] h
  ·refine Bd h rfl (fun h => ?_) fun h => ?_
   ·refine As Ac rfl (qa rfl (Ad ?_))
    obtain rfl := sj h
    refine Ak (sm [] [(4, iD 6)] [] rfl rfl) (Ax ?_)
    exact ⟨⟨[_], ⟨.tmp _ _ rfl, tv⟩, rfl⟩, tv⟩
   ·refine Ao (Ap (As Ac rfl (qa rfl (Ad ?_))))
    refine AB (L := CO N p0 p1) h (fun v7 => mk [(2, oD (.ptr 2 0)), (3, oD (.ptr 3 0)), (6, iD ((p0.fb.length : Int))), (7, iD v7)] [(2, .box (Al p0)), (3, .box (AR p1))]) (fun v8 => mk [(2, oD (.ptr 2 0)), (3, oD (.ptr 3 0))] [(2, .box (Al p0)), (3, .box (AR p1))]) (fun _ _ => rfl) (sm [] _ _ rfl rfl) (fun j7 n7 v7 h => ?_) (fun v8 s h hs => ?_)
    ·unfold CO at h
     refine Ap (As Ac rfl (qm rfl (qm rfl (A0 rfl (Ad ?_)))))
     refine Bd h rfl (fun h => ?_) fun h => ?_
     ·refine Ao (Ap (AL (Ap ?_)))
      refine AU h (fun v10 => mk [(2, oD (.ptr 2 0)), (3, oD (.ptr 3 0)), (6, iD ((p0.fb.length : Int))), (7, iD v7), (84, bD v10)] [(2, .box (Al p0)), (3, .box (AR p1))]) (fun j10 h => ?_) (fun v10 h => ?_)
      ·refine Aj Ac rfl (qf DY rfl (ql Bi rfl (qm rfl ?_)))
       obtain ⟨v11, a11, b11, h⟩ := Ah h
       refine qi AG En a11 (Af b11) rfl (qk CP rfl (A0 rfl (qm rfl ?_)))
       refine E1 51 h rfl (fun h => ?_) fun h => ?_
       ·refine qn rfl (qn rfl (qn rfl (qn rfl (qn rfl (qn rfl (qn rfl (qn rfl (qn rfl (qn rfl (qn rfl (qp rfl (qm rfl (qn rfl (qn rfl (qn rfl (qn rfl (qn rfl (qn rfl (qp rfl (qm rfl (qn rfl (qn rfl (qn rfl (qn rfl (qn rfl (qn rfl (qn rfl (qn rfl (qn rfl (qn rfl (qn rfl (qp rfl (AJ (by kernel_rfl) ?_)))))))))))))))))))))))))))))))))
        exact sn [] h
       ·refine qf DY rfl (ql Bi rfl (qm rfl ?_))
        obtain ⟨v13, a13, b13, h⟩ := Ah h
        refine qi AG En a13 (Af b13) rfl (qk CP rfl (qf BD rfl (ql Bi rfl (qm rfl ?_))))
        obtain ⟨v14, a14, b14, h⟩ := Ah h
        refine qi AG En a14 (Af b14) rfl (qk CP rfl (Ee rfl (qp rfl (qm rfl ?_))))
        refine E1 64 h rfl (fun h => ?_) fun h => ?_
        ·refine qn rfl (qn rfl (qn rfl (qn rfl (qn rfl (qn rfl (qp rfl (qm rfl (qn rfl (qn rfl (qn rfl (qn rfl (qn rfl (qn rfl (qn rfl (qn rfl (qn rfl (qn rfl (qn rfl (qp rfl (AJ (by kernel_rfl) ?_))))))))))))))))))))
         exact sn [] h
        ·refine qf B8 rfl (ql Bi rfl (qm rfl ?_))
         obtain ⟨v16, a16, b16, h⟩ := Ah h
         refine qi AG En a16 (Af b16) rfl (qk CP rfl (A0 rfl (qp rfl (qm rfl ?_))))
         refine E1 72 h rfl (fun h => ?_) fun h => ?_
         ·refine qn rfl (qn rfl (qn rfl (qn rfl (qn rfl (qn rfl (qn rfl (qn rfl (qn rfl (qn rfl (qn rfl (qp rfl (AJ (by kernel_rfl) ?_))))))))))))
          exact sn [] h
         ·refine qf B8 rfl (ql Bi rfl (qm rfl ?_))
          obtain ⟨v18, a18, b18, h⟩ := Ah h
          refine qi AG En a18 (Af b18) rfl (qk CP rfl (qf BD rfl (ql Bi rfl (qm rfl ?_))))
          obtain ⟨v19, a19, b19, h⟩ := Ah h
          refine qi AG En a19 (Af b19) rfl (qk CP rfl (Ee rfl (qp rfl (AJ (by kernel_rfl) ?_))))
          exact sn [] h
      ·refine Bd h rfl (fun h => ?_) fun h => ?_
       ·refine As Ac rfl (qa rfl (Ad ?_))
        obtain rfl := sj h
        refine Ak (sm [] [(4, iD 7)] [] rfl rfl) (Ax ?_)
        exact ⟨⟨[_], ⟨.tmp _ _ rfl, tv⟩, rfl⟩, tv⟩
       ·refine Ao (As Ac rfl (qf DY rfl (ql Bi rfl (qm rfl ?_))))
        obtain ⟨v21, a21, b21, h⟩ := Ah h
        refine qi AG En a21 (Af b21) rfl (qk CP rfl (qf B8 rfl (ql Bi rfl (qm rfl ?_))))
        obtain ⟨v22, a22, b22, h⟩ := Ah h
        refine qi AG En a22 (Af b22) rfl (qk CP rfl (B5 rfl (AJ (by kernel_rfl) ?_)))
        refine Bd h rfl (fun h => ?_) fun h => ?_
        ·refine As Ac rfl (qa rfl (Ad ?_))
         obtain rfl := sj h
         refine Ak (sm [] [(4, iD 1)] [] rfl rfl) (Ax ?_)
         exact ⟨⟨[_], ⟨.tmp _ _ rfl, tv⟩, rfl⟩, tv⟩
        ·refine Ao (Aj Ac rfl (qm rfl (AW rfl (qa rfl (Ad ?_)))))
         exact sn [] h
     ·refine AV ?_
      exact sn [] h
    ·refine Ak hs (Ap (As Ac rfl (qa rfl (Ad ?_))))
     refine AB (L := Cz N p0 p1) h (fun v24 => mk [(2, oD (.ptr 2 0)), (3, oD (.ptr 3 0)), (8, iD v24)] [(2, .box (Al p0)), (3, .box (AR p1))]) (fun v25 => mk [] []) (fun _ _ => rfl) (sm [] _ _ rfl rfl) (fun j24 n24 v24 h => ?_) (fun v25 s h hs => ?_)
     ·unfold Cz at h
      refine Ap (As Ac rfl (qm rfl (qf BG rfl (ql Gy rfl (AZ C6 rfl (A0 rfl (Ad ?_)))))))
      refine Bd h rfl (fun h => ?_) fun h => ?_
      ·refine Ao (Ap (AL (As Ac rfl (qf BG rfl (ql Gy rfl (qm rfl ?_))))))
       obtain ⟨v27, a27, b27, h⟩ := Ah h
       refine qi C6 Dq a27 (Af b27) rfl (qK HQ Dq rfl (qz JO rfl (qs Dq rfl (Ad (As Ac rfl (qf BD rfl (ql Bi rfl (qf Em rfl (ql CP rfl ?_)))))))))
       obtain ⟨v28, a28, b28, h⟩ := Ah h
       refine qi AG En a28 (Af b28) rfl (qk CP rfl ?_)
       obtain ⟨c29, h⟩ := AD h
       refine Jr rfl c29 (Di rfl (qa rfl (Ad ?_)))
       refine AU h (fun v30 => mk [(2, oD (.ptr 2 0)), (3, oD (.ptr 3 0)), (8, iD v24), (153, bD v30)] [(2, .box (Al p0)), (3, .box (AR p1))]) (fun j30 h => ?_) (fun v30 h => ?_)
       ·refine Aj Ac rfl (qL HQ Dq rfl ?_)
        obtain ⟨v31, a31, h⟩ := bind_some h
        refine AF [] (CW N v27 v31 a31) Sp rfl (CQ rfl (qm rfl ?_))
        refine E1 119 h rfl (fun h => ?_) fun h => ?_
        ·refine qf DF rfl (ql II rfl (qm rfl ?_))
         obtain ⟨v33, a33, b33, h⟩ := Ah h
         refine qi EO HB a33 (Af b33) rfl (qk LS rfl (CU rfl (qp rfl (qm rfl ?_))))
         refine E1 127 h rfl (fun h => ?_) fun h => ?_
         ·refine qn rfl (qn rfl (qn rfl (qu rfl (qu rfl (qu rfl (qu rfl (qu rfl (qu rfl (qu rfl (qu rfl (qu rfl (qu rfl (qu rfl (qu rfl (qu rfl (qu rfl (qu rfl (qu rfl (qu rfl (qu rfl (qu rfl (qu rfl (qu rfl (qn rfl (qp rfl (AJ (by kernel_rfl) ?_))))))))))))))))))))))))))
          exact sn [] h
         ·refine qL HQ Dq rfl ?_
          obtain ⟨v35, a35, h⟩ := bind_some h
          refine AF [] (CW N v27 v35 a35) Sp rfl (qm rfl ?_)
          refine E1 130 h rfl (fun h => ?_) fun h => ?_
          ·refine qf DF rfl (ql II rfl (qm rfl ?_))
           obtain ⟨v37, a37, b37, h⟩ := Ah h
           refine qi EO HB a37 (Af b37) rfl (qk LS rfl (qm rfl (Ke rfl (CU rfl (qm rfl ?_)))))
           refine E1 139 h rfl (fun h => ?_) fun h => ?_
           ·refine qn rfl (qn rfl (qn rfl (qn rfl (qn rfl (qn rfl (qn rfl (qn rfl (qn rfl (qn rfl (qn rfl (qp rfl (qp rfl (qp rfl (AJ (by kernel_rfl) ?_))))))))))))))
            exact sn [] h
           ·refine qL CF Bc rfl (qf Em rfl (ql CP rfl ?_))
            obtain ⟨v39, a39, h⟩ := bind_some h
            refine AF [] (Fp N p1 v27.fg v39 a39) Ta rfl (qf DF rfl (ql II rfl (qm rfl ?_)))
            obtain ⟨v40, a40, b40, h⟩ := Ah h
            refine qi EO HB a40 (Af b40) rfl (qk LS rfl (Ke rfl (CU rfl (qp rfl (qp rfl (qp rfl (AJ (by kernel_rfl) ?_)))))))
            exact sn [] h
          ·refine qn rfl (qn rfl (qn rfl (qn rfl (qn rfl (qn rfl (qn rfl (qn rfl (qn rfl (qu rfl (qu rfl (qu rfl (qu rfl (qu rfl (qu rfl (qu rfl (qu rfl (qu rfl (qu rfl (qu rfl (qn rfl (qp rfl (qp rfl (AJ (by kernel_rfl) ?_)))))))))))))))))))))))
           exact sn [] h
        ·refine qn rfl (qn rfl (qn rfl (qn rfl (qn rfl (qn rfl (qp rfl (qm rfl (qL HQ Dq rfl ?_))))))))
         obtain ⟨v41, a41, h⟩ := bind_some h
         refine AF [] (CW N v27 v41 a41) Sp rfl (qm rfl ?_)
         refine E1 130 h rfl (fun h => ?_) fun h => ?_
         ·refine qf DF rfl (ql II rfl (qm rfl ?_))
          obtain ⟨v43, a43, b43, h⟩ := Ah h
          refine qi EO HB a43 (Af b43) rfl (qk LS rfl (qm rfl (Ke rfl (CU rfl (qm rfl ?_)))))
          refine E1 139 h rfl (fun h => ?_) fun h => ?_
          ·refine qn rfl (qn rfl (qn rfl (qn rfl (qn rfl (qn rfl (qn rfl (qn rfl (qn rfl (qn rfl (qn rfl (qp rfl (qp rfl (qp rfl (AJ (by kernel_rfl) ?_))))))))))))))
           exact sn [] h
          ·refine qL CF Bc rfl (qf Em rfl (ql CP rfl ?_))
           obtain ⟨v45, a45, h⟩ := bind_some h
           refine AF [] (Fp N p1 v27.fg v45 a45) Ta rfl (qf DF rfl (ql II rfl (qm rfl ?_)))
           obtain ⟨v46, a46, b46, h⟩ := Ah h
           refine qi EO HB a46 (Af b46) rfl (qk LS rfl (Ke rfl (CU rfl (qp rfl (qp rfl (qp rfl (AJ (by kernel_rfl) ?_)))))))
           exact sn [] h
         ·refine qn rfl (qn rfl (qn rfl (qn rfl (qn rfl (qn rfl (qn rfl (qn rfl (qn rfl (qu rfl (qu rfl (qu rfl (qu rfl (qu rfl (qu rfl (qu rfl (qu rfl (qu rfl (qu rfl (qu rfl (qn rfl (qp rfl (qp rfl (AJ (by kernel_rfl) ?_)))))))))))))))))))))))
          exact sn [] h
       ·refine Bd h rfl (fun h => ?_) fun h => ?_
        ·refine As Ac rfl (qa rfl (Ad ?_))
         obtain rfl := sj h
         refine Ak (sm [] [(4, iD 1)] [] rfl rfl) (Ax ?_)
         exact ⟨⟨[_], ⟨.tmp _ _ rfl, tv⟩, rfl⟩, tv⟩
        ·refine Ao (Aj Ac rfl (qm rfl (AW rfl (qa rfl (Ad ?_)))))
         exact sn [] h
      ·refine AV ?_
       exact sn [] h
     ·refine Ak hs (As Ac rfl (qa rfl (Ad ?_)))
      obtain rfl := sj h
      refine Ak (sm [] [(4, iD 0)] [] rfl rfl) (Ax ?_)
      exact ⟨⟨[_], ⟨.tmp _ _ rfl, tv⟩, rfl⟩, tv⟩
theorem MB (N : Nat) (p0 : Ai) (r : Bool) (h : FB N p0 = some r) : Ay Tryz.prog 113 [.e (.agg (Ed p0))] [] (bD r) := by
 unfold FB at h
 refine An (n := 31) (rs := [.tmp 2]) Tryz.func113 rfl rfl rfl (A2 rfl) (A2 rfl) rfl fun w0 S0 => ?_
 refine As Ac rfl (qb rfl (qa rfl (Ad ?_)))
 refine AU h (fun v1 => mk [(2, bD v1)] []) (fun j1 h => ?_) (fun v1 h => ?_)
 ·refine Aj Ac rfl (qf Gk rfl (ql CP rfl (Ee rfl (qm rfl ?_))))
  refine E1 6 h rfl (fun h => ?_) fun h => ?_
  ·refine qf Gk rfl (ql CP rfl (K0 rfl (qp rfl (qm rfl ?_))))
   refine E1 11 h rfl (fun h => ?_) fun h => ?_
   ·refine qf Fl rfl (ql CP rfl (Ee rfl (qp rfl (qm rfl ?_))))
    refine E1 16 h rfl (fun h => ?_) fun h => ?_
    ·refine qf Hk rfl (ql CP rfl (Ee rfl (qp rfl (qm rfl ?_))))
     refine E1 21 h rfl (fun h => ?_) fun h => ?_
     ·refine qf Gk rfl (ql CP rfl (B5 rfl (qm rfl ?_)))
      refine E1 25 h rfl (fun h => ?_) fun h => ?_
      ·refine qn rfl (qn rfl (qn rfl (qp rfl (qp rfl (qa rfl (Ad ?_))))))
       exact sn [] h
      ·refine qf Hk rfl (ql CP rfl (B5 rfl (qp rfl (qp rfl (qa rfl (Ad ?_))))))
       exact sn [] h
     ·refine qn rfl (qn rfl (qn rfl (qn rfl (qu rfl (qu rfl (qu rfl (qn rfl (qp rfl (qa rfl (Ad ?_))))))))))
      exact sn [] h
    ·refine qn rfl (qn rfl (qn rfl (qp rfl (qm rfl (qn rfl (qn rfl (qn rfl (qn rfl (qu rfl (qu rfl (qu rfl (qn rfl (qp rfl (qa rfl (Ad ?_)))))))))))))))
     exact sn [] h
   ·refine qn rfl (qn rfl (qn rfl (qp rfl (qm rfl (qn rfl (qn rfl (qn rfl (qp rfl (qm rfl (qn rfl (qn rfl (qn rfl (qn rfl (qu rfl (qu rfl (qu rfl (qn rfl (qp rfl (qa rfl (Ad ?_))))))))))))))))))))
    exact sn [] h
  ·refine qn rfl (qn rfl (qn rfl (qp rfl (qm rfl (qn rfl (qn rfl (qn rfl (qp rfl (qm rfl (qn rfl (qn rfl (qn rfl (qp rfl (qm rfl (qn rfl (qn rfl (qn rfl (qn rfl (qu rfl (qu rfl (qu rfl (qn rfl (qp rfl (qa rfl (Ad ?_)))))))))))))))))))))))))
   exact sn [] h
 ·obtain rfl := sj h
  refine Ak (sm [] [(2, bD v1)] [] rfl rfl) (Ax ?_)
  exact ⟨⟨[_], ⟨.tmp _ _ rfl, tv⟩, rfl⟩, tv⟩
theorem JA (N : Nat) (p0 : Ae) (p1 : Ag) (p2 : Ai) (r : Ag × Bool) (h : Dy N p0 p1 p2 = some r) : Ay Tryz.prog 114 [.e (.agg (Al p0)), .e (.agg (AR p1)), .e (.agg (Ed p2))] [(1, r.1.fd.map Aw), (1, r.1.fa.map Aw), (1, r.1.fe.map EI)] (.tup [.agg [.own 0, .own 1, .own 2], .one (.pure (.val (.bool r.2)))]) := by
 unfold Dy at h
 refine An (n := 201) (rs := [.cell 6 64, .tmp 7]) Tryz.func114 rfl rfl rfl (A2 rfl) (A2 rfl) rfl fun w0 S0 => ?_
 refine As Ac rfl (qb rfl (qb rfl (qb rfl (qz Fx rfl (qa rfl (Ad (As Ac rfl (E2 AG En Lb rfl (qf DY rfl (ql Bi rfl ?_))))))))))
 obtain ⟨c1, h⟩ := AD h
 refine HM (f := Aw) AG AG En L7 Lb (fun _ => rfl) c1 rfl (E2 AG En Lb rfl (qf B8 rfl (ql Bi rfl ?_)))
 obtain ⟨c2, h⟩ := AD h
 refine HM (f := Aw) AG AG En L7 Lb (fun _ => rfl) c2 rfl (E2 EO HB Sk rfl (qf DF rfl (ql II rfl ?_)))
 obtain ⟨c3, h⟩ := AD h
 refine HM (f := EI) EO EO HB Uo Sk (fun _ => rfl) c3 rfl (Bx Fx JK rfl (qz Fx rfl (qs Bc rfl (AJ (by kernel_rfl) (As Ac rfl (qf Fl rfl (ql CP rfl (qa rfl (Ad ?_)))))))))
 refine AU h (fun v4 => mk [(6, oD (.ptr 6 0)), (8, oD (.ptr 8 0))] [(6, .box [.pure (.nil0), .pure (.nil0), .pure (.nil0)]), (8, .box [.own 2001, .own 2002, .own 2003]), (2001, .vec 1 (v4.1.map Aw)), (2002, .vec 1 (v4.2.1.map Aw)), (2003, .vec 1 (v4.2.2.map EI))]) (fun j4 h => ?_) (fun v4 h => ?_)
 ·refine As Ac rfl (qf Gk rfl (ql CP rfl (Ad (AL (As Ac rfl (B5 rfl (qa rfl (Ad ?_))))))))
  refine Bd h rfl (fun h => ?_) fun h => ?_
  ·refine Ap ?_
   refine AU h (fun v6 => mk [(3, oD (.ptr 3 0)), (5, oD (.ptr 5 0)), (6, oD (.ptr 6 0)), (8, oD (.ptr 8 0)), (9, iD p2.fi), (60, bD v6)] [(3, .box (Al p0)), (5, .box (Ed p2)), (6, .box [.pure (.nil0), .pure (.nil0), .pure (.nil0)]), (8, .box [.own 2004, .own 2005, .own 2006]), (2004, .vec 1 (((([] : List Int)) ++ p1.fd).map Aw)), (2005, .vec 1 (((([] : List Int)) ++ p1.fa).map Aw)), (2006, .vec 1 (((([] : List Int)) ++ p1.fe).map EI))]) (fun j6 h => ?_) (fun v6 h => ?_)
   ·refine Aj Ac rfl (qf B8 rfl (ql Bi rfl (qm rfl ?_)))
    obtain ⟨v7, a7, b7, h⟩ := Ah h
    refine qi AG En a7 (Af b7) rfl (qk CP rfl (Ee rfl (qm rfl ?_)))
    refine E1 51 h rfl (fun h => ?_) fun h => ?_
    ·refine qn rfl (qn rfl (qn rfl (qn rfl (qn rfl (qn rfl (qn rfl (qn rfl (qp rfl (AJ (by kernel_rfl) ?_)))))))))
     exact sn [(2004, 18), (2005, 22), (2006, 26)] h
    ·refine qf Hk rfl (ql CP rfl (qf DY rfl (ql Bi rfl (qm rfl ?_))))
     obtain ⟨v9, a9, b9, h⟩ := Ah h
     refine qi AG En a9 (Af b9) rfl (qk CP rfl (B5 rfl (qp rfl (AJ (by kernel_rfl) ?_))))
     exact sn [(2004, 18), (2005, 22), (2006, 26)] h
   ·refine Bd h rfl (fun h => ?_) fun h => ?_
    ·refine As Ac rfl (Bx Fx JK rfl (qs Bc rfl (qa rfl (Ad ?_))))
     obtain rfl := sj h
     refine Ak ((AA 6 0 2007 1 _ rfl rfl rfl rfl).trans ((AA 6 1 2008 1 _ rfl rfl rfl rfl).trans ((AA 6 2 2009 1 _ rfl rfl rfl rfl).trans (sm [(1000, 2007), (1001, 2008), (1002, 2009)] [(6, oD (.ptr 6 0)), (7, bD false)] [(6, .box [.own 1000, .own 1001, .own 1002]), (1000, .vec 1 ((([] : List Int)).map Aw)), (1001, .vec 1 ((([] : List Int)).map Aw)), (1002, .vec 1 ((([] : List Int)).map EI))] rfl rfl)))) (Ax ?_)
     exact ⟨⟨[_, _], ⟨.cellN _ _ _ _ _ _ _ rfl rfl CF Bc rfl rfl (Kj rfl), ⟨.tmp _ _ rfl, tv⟩⟩, rfl⟩, ⟨rfl, rfl, rfl, tv⟩⟩
    ·refine Ao (As Ac rfl (qf B8 rfl (ql Bi rfl (qm rfl (qf Hk rfl (ql CP rfl ?_))))))
     obtain ⟨v11, a11, b11, h⟩ := Ah h
     refine qI AG En a11 (Af b11) rfl ?_
     refine A9 rfl rfl rfl rfl (Af b11) rfl En rfl (A2 rfl) (A6 Aw ((([] : List Int)) ++ p1.fa) _ p2.fr) ?_
     refine Ad (As Ac rfl (qa rfl (Ad ?_)))
     refine AB (L := Cu N p0 p2) h (fun v12 => mk [(3, oD (.ptr 3 0)), (5, oD (.ptr 5 0)), (6, oD (.ptr 6 0)), (8, oD (.ptr 8 0)), (9, iD p2.fi), (10, iD v12.2)] [(3, .box (Al p0)), (5, .box (Ed p2)), (6, .box [.pure (.nil0), .pure (.nil0), .pure (.nil0)]), (8, .box [.own 2010, .own 2011, .own 2012]), (2010, .vec 1 (((([] : List Int)) ++ p1.fd).map Aw)), (2011, .vec 1 ((((([] : List Int)) ++ p1.fa).set ((p2.fi).toNat) p2.fr).map Aw)), (2012, .vec 1 (v12.1.map EI))]) (fun v13 => mk [(6, oD (.ptr 6 0)), (8, oD (.ptr 8 0))] [(6, .box [.pure (.nil0), .pure (.nil0), .pure (.nil0)]), (8, .box [.own 2013, .own 2014, .own 2015]), (2013, .vec 1 (((([] : List Int)) ++ p1.fd).map Aw)), (2014, .vec 1 ((((([] : List Int)) ++ p1.fa).set ((p2.fi).toNat) p2.fr).map Aw)), (2015, .vec 1 (v13.map EI))]) (fun _ _ => rfl) (sm [(2010, 2004), (2011, 2005), (2012, 2006)] _ _ rfl rfl) (fun j12 n12 v12 h => ?_) (fun v13 s h hs => ?_)
     ·unfold Cu at h
      refine Ap (As Ac rfl (qm rfl (qf BG rfl (ql Gy rfl (AZ C6 rfl (A0 rfl (Ad ?_)))))))
      refine Bd h rfl (fun h => ?_) fun h => ?_
      ·refine Ao ?_
       refine AU h (fun v15 => mk [(3, oD (.ptr 3 0)), (5, oD (.ptr 5 0)), (6, oD (.ptr 6 0)), (8, oD (.ptr 8 0)), (9, iD p2.fi), (10, iD v12.2)] [(3, .box (Al p0)), (5, .box (Ed p2)), (6, .box [.pure (.nil0), .pure (.nil0), .pure (.nil0)]), (8, .box [.own 2016, .own 2017, .own 2018]), (2016, .vec 1 (((([] : List Int)) ++ p1.fd).map Aw)), (2017, .vec 1 ((((([] : List Int)) ++ p1.fa).set ((p2.fi).toNat) p2.fr).map Aw)), (2018, .vec 1 (v15.map EI))]) (fun j15 h => ?_) (fun v15 h => ?_)
       ·refine AL ?_
        refine AU h (fun v16 => mk [(3, oD (.ptr 3 0)), (5, oD (.ptr 5 0)), (6, oD (.ptr 6 0)), (8, oD (.ptr 8 0)), (9, iD p2.fi), (10, iD v12.2), (90, bD v16)] [(3, .box (Al p0)), (5, .box (Ed p2)), (6, .box [.pure (.nil0), .pure (.nil0), .pure (.nil0)]), (8, .box [.own 2019, .own 2020, .own 2021]), (2019, .vec 1 (((([] : List Int)) ++ p1.fd).map Aw)), (2020, .vec 1 ((((([] : List Int)) ++ p1.fa).set ((p2.fi).toNat) p2.fr).map Aw)), (2021, .vec 1 (v12.1.map EI))]) (fun j16 h => ?_) (fun v16 h => ?_)
        ·refine Aj Ac rfl (qf BG rfl (ql Gy rfl (qm rfl ?_)))
         obtain ⟨v17, a17, b17, h⟩ := Ah h
         refine qi C6 Dq a17 (Af b17) rfl (qg Em rfl (qk CP rfl (qm rfl (B5 rfl (qm rfl ?_)))))
         refine E1 83 h rfl (fun h => ?_) fun h => ?_
         ·refine qf BG rfl (ql Gy rfl (qm rfl ?_))
          obtain ⟨v19, a19, b19, h⟩ := Ah h
          refine qi C6 Dq a19 (Af b19) rfl (qK HQ Dq rfl ?_)
          obtain ⟨v20, a20, h⟩ := bind_some h
          refine AF [] (CW N v19 v20 a20) Sp rfl (qp rfl (Ad ?_))
          exact sn [(2019, 2010), (2020, 2011), (2021, 2012)] h
         ·refine qn rfl (qn rfl (qn rfl (qn rfl (qn rfl (qn rfl (qp rfl (Ad ?_)))))))
          exact sn [(2019, 2010), (2020, 2011), (2021, 2012)] h
        ·refine Bd h rfl (fun h => ?_) fun h => ?_
         ·refine Aj Ac rfl (qf DF rfl (ql II rfl (qm rfl (qf DF rfl (ql II rfl (qm rfl ?_))))))
          obtain ⟨v22, a22, b22, h⟩ := Ah h
          refine qI EO HB a22 (Af b22) rfl (qj LS (Af b22) rfl (qf Hk rfl (ql CP rfl ?_)))
          obtain ⟨c23, h⟩ := AD h
          refine Jr rfl c23 (XL rfl ?_)
          obtain ⟨v24, a24, b24, h⟩ := Ah h
          refine qI EO HB a24 (Af b24) rfl ?_
          refine A9 rfl rfl rfl rfl (Af b24) rfl HB rfl (A2 rfl) (A6 EI v12.1 _ ((QF .u8 v22 ((Dp .u8 1 p2.fr))))) ?_
          refine AJ (by kernel_rfl) ?_
          exact sn [(2016, 2019), (2017, 2020), (2018, 2021)] h
         ·refine Ao ?_
          exact sn [(2016, 2019), (2017, 2020), (2018, 2021)] h
       ·refine Aj Ac rfl (qm rfl (AW rfl (qa rfl (Ad ?_))))
        exact sn [(2010, 2016), (2011, 2017), (2012, 2018)] h
      ·refine AV ?_
       exact sn [(2013, 2010), (2014, 2011), (2015, 2012)] h
     ·exact TL _ h (hs.trans (sm [(2001, 2013), (2002, 2014), (2003, 2015)] _ _ rfl rfl))
  ·refine As Ac rfl (B5 rfl (qa rfl (Ad ?_)))
   refine Bd h rfl (fun h => ?_) fun h => ?_
   ·refine Ap (As Ac rfl (qf B8 rfl (ql Bi rfl (qm rfl ?_))))
    obtain ⟨v26, a26, b26, h⟩ := Ah h
    refine qi AG En a26 (Af b26) rfl (qk CP rfl (A0 rfl (Ad ?_)))
    refine Bd h rfl (fun h => ?_) fun h => ?_
    ·refine As Ac rfl (Bx Fx JK rfl (qs Bc rfl (qa rfl (Ad ?_))))
     obtain rfl := sj h
     refine Ak ((AA 6 0 2022 1 _ rfl rfl rfl rfl).trans ((AA 6 1 2023 1 _ rfl rfl rfl rfl).trans ((AA 6 2 2024 1 _ rfl rfl rfl rfl).trans (sm [(1000, 2022), (1001, 2023), (1002, 2024)] [(6, oD (.ptr 6 0)), (7, bD false)] [(6, .box [.own 1000, .own 1001, .own 1002]), (1000, .vec 1 ((([] : List Int)).map Aw)), (1001, .vec 1 ((([] : List Int)).map Aw)), (1002, .vec 1 ((([] : List Int)).map EI))] rfl rfl)))) (Ax ?_)
     exact ⟨⟨[_, _], ⟨.cellN _ _ _ _ _ _ _ rfl rfl CF Bc rfl rfl (Kj rfl), ⟨.tmp _ _ rfl, tv⟩⟩, rfl⟩, ⟨rfl, rfl, rfl, tv⟩⟩
    ·refine Ao (Aj Ac rfl (qf DY rfl (ql Bi rfl (qm rfl (qf B8 rfl (ql Bi rfl (qm rfl (qf B8 rfl (ql Bi rfl (qm rfl ?_))))))))))
     obtain ⟨v28, a28, b28, h⟩ := Ah h
     refine qi AG En a28 (Af b28) rfl (qk CP rfl ?_)
     obtain ⟨v29, a29, b29, h⟩ := Ah h
     refine qI AG En a29 (Af b29) rfl ?_
     refine A9 rfl rfl rfl rfl (Af b29) rfl En rfl (A2 rfl) (A6 Aw ((([] : List Int)) ++ p1.fd) _ v28) ?_
     obtain ⟨v30, a30, b30, h⟩ := Ah h
     refine qI AG En a30 (Af b30) rfl ?_
     refine A9 rfl rfl rfl rfl (Af b30) rfl En rfl (A2 rfl) (A6 Aw ((([] : List Int)) ++ p1.fa) _ ((-1))) ?_
     refine AJ (by kernel_rfl) ?_
     exact sn [(2001, 18), (2002, 22), (2003, 26)] h
   ·refine As Ac rfl (B5 rfl (qa rfl (Ad ?_)))
    refine Bd h rfl (fun h => ?_) fun h => ?_
    ·refine As Ac rfl (qf BG rfl (ql Gy rfl (qm rfl ?_)))
     obtain ⟨v32, a32, b32, h⟩ := Ah h
     refine qi C6 Dq a32 (Af b32) rfl (qK HQ Dq rfl (qz JO rfl (qs Dq rfl (Ad (Ap (As Ac rfl (qL HQ Dq rfl ?_)))))))
     obtain ⟨v33, a33, h⟩ := bind_some h
     refine AF [] (CW N v32 v33 a33) Sp rfl (CQ rfl (Ad ?_))
     refine Bd h rfl (fun h => ?_) fun h => ?_
     ·refine As Ac rfl (Bx Fx JK rfl (qs Bc rfl (qa rfl (Ad ?_))))
      obtain rfl := sj h
      refine Ak ((AA 6 0 2025 1 _ rfl rfl rfl rfl).trans ((AA 6 1 2026 1 _ rfl rfl rfl rfl).trans ((AA 6 2 2027 1 _ rfl rfl rfl rfl).trans (sm [(1000, 2025), (1001, 2026), (1002, 2027)] [(6, oD (.ptr 6 0)), (7, bD false)] [(6, .box [.own 1000, .own 1001, .own 1002]), (1000, .vec 1 ((([] : List Int)).map Aw)), (1001, .vec 1 ((([] : List Int)).map Aw)), (1002, .vec 1 ((([] : List Int)).map EI))] rfl rfl)))) (Ax ?_)
      exact ⟨⟨[_, _], ⟨.cellN _ _ _ _ _ _ _ rfl rfl CF Bc rfl rfl (Kj rfl), ⟨.tmp _ _ rfl, tv⟩⟩, rfl⟩, ⟨rfl, rfl, rfl, tv⟩⟩
     ·refine Ao (As Ac rfl (qL CF Bc rfl (qf Em rfl (ql CP rfl ?_))))
      obtain ⟨v35, a35, h⟩ := bind_some h
      refine AF [] (Fp N p1 v32.fg v35 a35) Ta rfl (qa rfl (Ad (Ap (As Ac rfl (qf DF rfl (ql II rfl (qm rfl ?_)))))))
      obtain ⟨v36, a36, b36, h⟩ := Ah h
      refine qi EO HB a36 (Af b36) rfl (qk LS rfl (qm rfl (B5 rfl (Ad ?_))))
      refine Bd h rfl (fun h => ?_) fun h => ?_
      ·refine As Ac rfl (Bx Fx JK rfl (qs Bc rfl (qa rfl (Ad ?_))))
       obtain rfl := sj h
       refine Ak ((AA 6 0 2028 1 _ rfl rfl rfl rfl).trans ((AA 6 1 2029 1 _ rfl rfl rfl rfl).trans ((AA 6 2 2030 1 _ rfl rfl rfl rfl).trans (sm [(1000, 2028), (1001, 2029), (1002, 2030)] [(6, oD (.ptr 6 0)), (7, bD false)] [(6, .box [.own 1000, .own 1001, .own 1002]), (1000, .vec 1 ((([] : List Int)).map Aw)), (1001, .vec 1 ((([] : List Int)).map Aw)), (1002, .vec 1 ((([] : List Int)).map EI))] rfl rfl)))) (Ax ?_)
       exact ⟨⟨[_, _], ⟨.cellN _ _ _ _ _ _ _ rfl rfl CF Bc rfl rfl (Kj rfl), ⟨.tmp _ _ rfl, tv⟩⟩, rfl⟩, ⟨rfl, rfl, rfl, tv⟩⟩
      ·refine Ao (Ap (As Ac rfl (qa rfl (Ad ?_))))
       refine AB (L := B1 N p0 p1 p2 v32 v35) h (fun v38 => mk [(3, oD (.ptr 3 0)), (4, oD (.ptr 4 0)), (6, oD (.ptr 6 0)), (8, oD (.ptr 8 0)), (9, iD p2.fi), (11, oD (.ptr 11 0)), (12, pD (.val (.int .u8 v35))), (13, iD v38)] [(3, .box (Al p0)), (4, .box (AR p1)), (6, .box [.pure (.nil0), .pure (.nil0), .pure (.nil0)]), (8, .box [.own 2031, .own 2032, .own 2033]), (11, .box (Bt v32)), (2031, .vec 1 (((([] : List Int)) ++ p1.fd).map Aw)), (2032, .vec 1 (((([] : List Int)) ++ p1.fa).map Aw)), (2033, .vec 1 (((([] : List Int)) ++ p1.fe).map EI))]) (fun v39 => mk [(6, oD (.ptr 6 0)), (8, oD (.ptr 8 0)), (9, iD p2.fi), (12, pD (.val (.int .u8 v35)))] [(6, .box [.pure (.nil0), .pure (.nil0), .pure (.nil0)]), (8, .box [.own 2034, .own 2035, .own 2036]), (2034, .vec 1 (((([] : List Int)) ++ p1.fd).map Aw)), (2035, .vec 1 (((([] : List Int)) ++ p1.fa).map Aw)), (2036, .vec 1 (((([] : List Int)) ++ p1.fe).map EI))]) (fun _ _ => rfl) (sm [(2031, 18), (2032, 22), (2033, 26)] _ _ rfl rfl) (fun j38 n38 v38 h => ?_) (fun v39 s h hs => ?_)
       ·unfold B1 at h
        refine Ap (As Ac rfl (qm rfl (qf BD rfl (ql Bi rfl (qf Em rfl (ql CP rfl ?_))))))
        obtain ⟨v40, a40, b40, h⟩ := Ah h
        refine qi AG En a40 (Af b40) rfl (qk CP rfl (A0 rfl (Ad ?_)))
        refine Bd h rfl (fun h => ?_) fun h => ?_
        ·refine Ao (Ap (AL ?_))
         refine AU h (fun v42 => mk [(3, oD (.ptr 3 0)), (4, oD (.ptr 4 0)), (6, oD (.ptr 6 0)), (8, oD (.ptr 8 0)), (9, iD p2.fi), (11, oD (.ptr 11 0)), (12, pD (.val (.int .u8 v35))), (13, iD v38), (14, bD v42)] [(3, .box (Al p0)), (4, .box (AR p1)), (6, .box [.pure (.nil0), .pure (.nil0), .pure (.nil0)]), (8, .box [.own 2037, .own 2038, .own 2039]), (11, .box (Bt v32)), (2037, .vec 1 (((([] : List Int)) ++ p1.fd).map Aw)), (2038, .vec 1 (((([] : List Int)) ++ p1.fa).map Aw)), (2039, .vec 1 (((([] : List Int)) ++ p1.fe).map EI))]) (fun j42 h => ?_) (fun v42 h => ?_)
         ·refine Aj Ac rfl (qf DF rfl (ql II rfl (qm rfl ?_)))
          obtain ⟨v43, a43, b43, h⟩ := Ah h
          refine qi EO HB a43 (Af b43) rfl (qk LS rfl (qm rfl ?_))
          obtain ⟨v44, a44, h⟩ := bind_some h
          refine AF [] (Hu N v43 v38 v44 a44) VV rfl (qm rfl ?_)
          refine E1 166 h rfl (fun h => ?_) fun h => ?_
          ·refine qm rfl (qm rfl ?_)
           obtain ⟨v46, a46, h⟩ := bind_some h
           refine AF [] (Hu N v35 v38 v46 a46) VV rfl (CQ rfl (qp rfl (qa rfl (Ad ?_))))
           exact sn [(2037, 2031), (2038, 2032), (2039, 2033)] h
          ·refine qn rfl (qn rfl (qn rfl (qn rfl (qp rfl (qa rfl (Ad ?_))))))
           exact sn [(2037, 2031), (2038, 2032), (2039, 2033)] h
         ·refine AU h (fun v47 => mk [(3, oD (.ptr 3 0)), (4, oD (.ptr 4 0)), (6, oD (.ptr 6 0)), (8, oD (.ptr 8 0)), (9, iD p2.fi), (11, oD (.ptr 11 0)), (12, pD (.val (.int .u8 v35))), (13, iD v38), (193, bD v47)] [(3, .box (Al p0)), (4, .box (AR p1)), (6, .box [.pure (.nil0), .pure (.nil0), .pure (.nil0)]), (8, .box [.own 2040, .own 2041, .own 2042]), (11, .box (Bt v32)), (2040, .vec 1 (((([] : List Int)) ++ p1.fd).map Aw)), (2041, .vec 1 (((([] : List Int)) ++ p1.fa).map Aw)), (2042, .vec 1 (((([] : List Int)) ++ p1.fe).map EI))]) (fun j47 h => ?_) (fun v47 h => ?_)
          ·refine Aj Ac rfl (qm rfl (qm rfl ?_))
           refine E1 173 h rfl (fun h => ?_) fun h => ?_
           ·refine qf Hz rfl (ql CP rfl (B5 rfl (qp rfl (qm rfl ?_))))
            refine E1 178 h rfl (fun h => ?_) fun h => ?_
            ·refine qf Fh rfl (ql HA rfl (qm rfl ?_))
             obtain ⟨v50, a50, b50, h⟩ := Ah h
             refine qi D4 IH a50 (Af b50) rfl (qk L9 rfl (qf DY rfl (ql Bi rfl (qf Em rfl (ql CP rfl ?_)))))
             obtain ⟨v51, a51, b51, h⟩ := Ah h
             refine qi AG En a51 (Af b51) rfl (qk CP rfl ?_)
             obtain ⟨v52, a52, b52, h⟩ := Ah h
             refine qi EZ MO a52 (Af b52) rfl (qk Uf rfl (CQ rfl (qp rfl (AJ (by kernel_rfl) ?_))))
             exact sn [(2040, 2037), (2041, 2038), (2042, 2039)] h
            ·refine qn rfl (qn rfl (qn rfl (qn rfl (qn rfl (qn rfl (qn rfl (qn rfl (qn rfl (qn rfl (qn rfl (qn rfl (qn rfl (qn rfl (qp rfl (AJ (by kernel_rfl) ?_)))))))))))))))
             exact sn [(2040, 2037), (2041, 2038), (2042, 2039)] h
           ·refine qn rfl (qn rfl (qn rfl (qp rfl (qm rfl (qn rfl (qn rfl (qn rfl (qn rfl (qn rfl (qn rfl (qn rfl (qn rfl (qn rfl (qn rfl (qn rfl (qn rfl (qn rfl (qn rfl (qp rfl (AJ (by kernel_rfl) ?_))))))))))))))))))))
            exact sn [(2040, 2037), (2041, 2038), (2042, 2039)] h
          ·refine Bd h rfl (fun h => ?_) fun h => ?_
           ·refine As Ac rfl (Bx Fx JK rfl (qs Bc rfl (qa rfl (Ad ?_))))
            obtain rfl := sj h
            refine Ak ((AA 6 0 2043 1 _ rfl rfl rfl rfl).trans ((AA 6 1 2044 1 _ rfl rfl rfl rfl).trans ((AA 6 2 2045 1 _ rfl rfl rfl rfl).trans (sm [(1000, 2043), (1001, 2044), (1002, 2045)] [(6, oD (.ptr 6 0)), (7, bD false)] [(6, .box [.own 1000, .own 1001, .own 1002]), (1000, .vec 1 ((([] : List Int)).map Aw)), (1001, .vec 1 ((([] : List Int)).map Aw)), (1002, .vec 1 ((([] : List Int)).map EI))] rfl rfl)))) (Ax ?_)
            exact ⟨⟨[_, _], ⟨.cellN _ _ _ _ _ _ _ rfl rfl CF Bc rfl rfl (Kj rfl), ⟨.tmp _ _ rfl, tv⟩⟩, rfl⟩, ⟨rfl, rfl, rfl, tv⟩⟩
           ·refine Ao (Aj Ac rfl (qm rfl (AW rfl (qa rfl (Ad ?_)))))
            exact sn [(2031, 2040), (2032, 2041), (2033, 2042)] h
        ·refine AV ?_
         exact sn [(2034, 2031), (2035, 2032), (2036, 2033)] h
       ·refine Ak hs (Aj Ac rfl (qf DF rfl (ql II rfl (qm rfl (qm rfl ?_)))))
        obtain ⟨v54, a54, b54, h⟩ := Ah h
        refine qI EO HB a54 (Af b54) rfl ?_
        refine A9 rfl rfl rfl rfl (Af b54) rfl HB rfl (A2 rfl) (A6 EI ((([] : List Int)) ++ p1.fe) _ v35) ?_
        refine Ad ?_
        exact sn [(2001, 2034), (2002, 2035), (2003, 2036)] h
    ·refine Ap (As Ac rfl (qf B8 rfl (ql Bi rfl (qm rfl ?_))))
     obtain ⟨v55, a55, b55, h⟩ := Ah h
     refine qi AG En a55 (Af b55) rfl (qk CP rfl (A0 rfl (Ad ?_)))
     refine Bd h rfl (fun h => ?_) fun h => ?_
     ·refine As Ac rfl (Bx Fx JK rfl (qs Bc rfl (qa rfl (Ad ?_))))
      obtain rfl := sj h
      refine Ak ((AA 6 0 2046 1 _ rfl rfl rfl rfl).trans ((AA 6 1 2047 1 _ rfl rfl rfl rfl).trans ((AA 6 2 2048 1 _ rfl rfl rfl rfl).trans (sm [(1000, 2046), (1001, 2047), (1002, 2048)] [(6, oD (.ptr 6 0)), (7, bD false)] [(6, .box [.own 1000, .own 1001, .own 1002]), (1000, .vec 1 ((([] : List Int)).map Aw)), (1001, .vec 1 ((([] : List Int)).map Aw)), (1002, .vec 1 ((([] : List Int)).map EI))] rfl rfl)))) (Ax ?_)
      exact ⟨⟨[_, _], ⟨.cellN _ _ _ _ _ _ _ rfl rfl CF Bc rfl rfl (Kj rfl), ⟨.tmp _ _ rfl, tv⟩⟩, rfl⟩, ⟨rfl, rfl, rfl, tv⟩⟩
     ·refine Ao (Aj Ac rfl (qf B8 rfl (ql Bi rfl (qm rfl ?_))))
      obtain ⟨v57, a57, b57, h⟩ := Ah h
      refine qI AG En a57 (Af b57) rfl ?_
      refine A9 rfl rfl rfl rfl (Af b57) rfl En rfl (A2 rfl) (A6 Aw ((([] : List Int)) ++ p1.fa) _ ((-1))) ?_
      refine Ad ?_
      exact sn [(2001, 18), (2002, 22), (2003, 26)] h
 ·refine As Ac rfl (qL CF Bc rfl (qs Bc rfl (qa rfl (Ad ?_))))
  obtain rfl := sj h
  refine Ak (sm [(1000, 2001), (1001, 2002), (1002, 2003)] [(6, oD (.ptr 6 0)), (7, bD true)] [(6, .box [.own 1000, .own 1001, .own 1002]), (1000, .vec 1 (v4.1.map Aw)), (1001, .vec 1 (v4.2.1.map Aw)), (1002, .vec 1 (v4.2.2.map EI))] rfl rfl) (Ax ?_)
  exact ⟨⟨[_, _], ⟨.cellN _ _ _ _ _ _ _ rfl rfl CF Bc rfl rfl (Kj rfl), ⟨.tmp _ _ rfl, tv⟩⟩, rfl⟩, ⟨rfl, rfl, rfl, tv⟩⟩
theorem MI (N : Nat) (p0 : Ae) (p1 : Ag) (p2 : Ai) (r : Ag × Int) (h : FM N p0 p1 p2 = some r) : Ay Tryz.prog 79 [.e (.agg (Al p0)), .e (.agg (AR p1)), .e (.agg (Ed p2))] [(1, r.1.fd.map Aw), (1, r.1.fa.map Aw), (1, r.1.fe.map EI)] (.tup [.agg [.own 0, .own 1, .own 2], .one (iC r.2)]) := by
 unfold FM at h
 refine An (n := 73) (rs := [.cell 6 64, .tmp 7]) Tryz.func79 rfl rfl rfl (A2 rfl) (A2 rfl) rfl fun w0 S0 => ?_
 refine As Ac rfl (qb rfl (qb rfl (qb rfl (qz Fx rfl (qa rfl (Ad (Ap (As Ac rfl (qL D0 CX rfl (qL CF Bc rfl ?_))))))))))
 obtain ⟨v1, a1, h⟩ := bind_some h
 refine AF [] (ME N p0 p1 v1 a1) bW rfl (qa rfl (Ad (As Ac rfl (qm rfl (CU rfl (Ad ?_))))))
 refine Bd h rfl (fun h => ?_) fun h => ?_
 ·refine As Ac rfl (Bx Fx JK rfl (qm rfl (qs Bc rfl (qa rfl (Ad ?_)))))
  obtain rfl := sj h
  refine Ak ((AA 6 0 2001 1 _ rfl rfl rfl rfl).trans ((AA 6 1 2002 1 _ rfl rfl rfl rfl).trans ((AA 6 2 2003 1 _ rfl rfl rfl rfl).trans (sm [(1000, 2001), (1001, 2002), (1002, 2003)] [(6, oD (.ptr 6 0)), (7, iD v1)] [(6, .box [.own 1000, .own 1001, .own 1002]), (1000, .vec 1 ((([] : List Int)).map Aw)), (1001, .vec 1 ((([] : List Int)).map Aw)), (1002, .vec 1 ((([] : List Int)).map EI))] rfl rfl)))) (Ax ?_)
  exact ⟨⟨[_, _], ⟨.cellN _ _ _ _ _ _ _ rfl rfl CF Bc rfl rfl (Kj rfl), ⟨.tmp _ _ rfl, tv⟩⟩, rfl⟩, ⟨rfl, rfl, rfl, tv⟩⟩
 ·refine Ao (Ap (As Ac rfl (qL H3 DQ rfl ?_)))
  obtain ⟨v3, a3, h⟩ := bind_some h
  refine AF [] (MB N p2 v3 a3) bO rfl (CQ rfl (Ad ?_))
  refine Bd h rfl (fun h => ?_) fun h => ?_
  ·refine As Ac rfl (Bx Fx JK rfl (qs Bc rfl (qa rfl (Ad ?_))))
   obtain rfl := sj h
   refine Ak ((AA 6 0 2004 1 _ rfl rfl rfl rfl).trans ((AA 6 1 2005 1 _ rfl rfl rfl rfl).trans ((AA 6 2 2006 1 _ rfl rfl rfl rfl).trans (sm [(1000, 2004), (1001, 2005), (1002, 2006)] [(6, oD (.ptr 6 0)), (7, iD 1)] [(6, .box [.own 1000, .own 1001, .own 1002]), (1000, .vec 1 ((([] : List Int)).map Aw)), (1001, .vec 1 ((([] : List Int)).map Aw)), (1002, .vec 1 ((([] : List Int)).map EI))] rfl rfl)))) (Ax ?_)
   exact ⟨⟨[_, _], ⟨.cellN _ _ _ _ _ _ _ rfl rfl CF Bc rfl rfl (Kj rfl), ⟨.tmp _ _ rfl, tv⟩⟩, rfl⟩, ⟨rfl, rfl, rfl, tv⟩⟩
  ·refine Ao (Ap ?_)
   refine AU h (fun v5 => mk [(3, oD (.ptr 3 0)), (4, oD (.ptr 4 0)), (5, oD (.ptr 5 0)), (6, oD (.ptr 6 0)), (45, bD v5)] [(3, .box (Al p0)), (4, .box (AR p1)), (5, .box (Ed p2)), (6, .box [.pure (.nil0), .pure (.nil0), .pure (.nil0)])]) (fun j5 h => ?_) (fun v5 h => ?_)
   ·refine Aj Ac rfl (qf Gk rfl (ql CP rfl (B5 rfl (qm rfl ?_))))
    refine E1 25 h rfl (fun h => ?_) fun h => ?_
    ·refine qf Fl rfl (ql CP rfl (qf BG rfl (ql Gy rfl (AZ C6 rfl (Ee rfl (qp rfl (qm rfl ?_)))))))
     refine E1 33 h rfl (fun h => ?_) fun h => ?_
     ·refine qn rfl (qn rfl (qn rfl (qn rfl (qu rfl (qu rfl (qu rfl (qu rfl (qu rfl (qu rfl (qn rfl (qp rfl (Ad ?_))))))))))))
      exact sn [] h
     ·refine qf Gk rfl (ql CP rfl (CU rfl (qm rfl ?_)))
      refine E1 37 h rfl (fun h => ?_) fun h => ?_
      ·refine qf Fl rfl (ql CP rfl (qf BD rfl (ql Bi rfl (AZ AG rfl (Ee rfl (qp rfl (qp rfl (Ad ?_))))))))
       exact sn [] h
      ·refine qn rfl (qn rfl (qn rfl (qn rfl (qn rfl (qn rfl (qp rfl (qp rfl (Ad ?_))))))))
       exact sn [] h
    ·refine qn rfl (qn rfl (qn rfl (qn rfl (qn rfl (qn rfl (qp rfl (qm rfl (qf Gk rfl (ql CP rfl (CU rfl (qm rfl ?_)))))))))))
     refine E1 37 h rfl (fun h => ?_) fun h => ?_
     ·refine qf Fl rfl (ql CP rfl (qf BD rfl (ql Bi rfl (AZ AG rfl (Ee rfl (qp rfl (qp rfl (Ad ?_))))))))
      exact sn [] h
     ·refine qn rfl (qn rfl (qn rfl (qn rfl (qn rfl (qn rfl (qp rfl (qp rfl (Ad ?_))))))))
      exact sn [] h
   ·refine Bd h rfl (fun h => ?_) fun h => ?_
    ·refine As Ac rfl (Bx Fx JK rfl (qs Bc rfl (qa rfl (Ad ?_))))
     obtain rfl := sj h
     refine Ak ((AA 6 0 2007 1 _ rfl rfl rfl rfl).trans ((AA 6 1 2008 1 _ rfl rfl rfl rfl).trans ((AA 6 2 2009 1 _ rfl rfl rfl rfl).trans (sm [(1000, 2007), (1001, 2008), (1002, 2009)] [(6, oD (.ptr 6 0)), (7, iD 4)] [(6, .box [.own 1000, .own 1001, .own 1002]), (1000, .vec 1 ((([] : List Int)).map Aw)), (1001, .vec 1 ((([] : List Int)).map Aw)), (1002, .vec 1 ((([] : List Int)).map EI))] rfl rfl)))) (Ax ?_)
     exact ⟨⟨[_, _], ⟨.cellN _ _ _ _ _ _ _ rfl rfl CF Bc rfl rfl (Kj rfl), ⟨.tmp _ _ rfl, tv⟩⟩, rfl⟩, ⟨rfl, rfl, rfl, tv⟩⟩
    ·refine Ao (Ap ?_)
     refine AU h (fun v11 => mk [(3, oD (.ptr 3 0)), (4, oD (.ptr 4 0)), (5, oD (.ptr 5 0)), (6, oD (.ptr 6 0)), (60, bD v11)] [(3, .box (Al p0)), (4, .box (AR p1)), (5, .box (Ed p2)), (6, .box [.pure (.nil0), .pure (.nil0), .pure (.nil0)])]) (fun j11 h => ?_) (fun v11 h => ?_)
     ·refine Aj Ac rfl (qf Gk rfl (ql CP rfl (B5 rfl (qm rfl ?_))))
      refine E1 50 h rfl (fun h => ?_) fun h => ?_
      ·refine qf Hk rfl (ql CP rfl (qf BD rfl (ql Bi rfl (qf Fl rfl (ql CP rfl ?_)))))
       obtain ⟨v13, a13, b13, h⟩ := Ah h
       refine qi AG En a13 (Af b13) rfl (qk CP rfl (Ee rfl (qp rfl (AJ (by kernel_rfl) ?_))))
       exact sn [] h
      ·refine qn rfl (qn rfl (qn rfl (qn rfl (qn rfl (qn rfl (qn rfl (qn rfl (qn rfl (qp rfl (AJ (by kernel_rfl) ?_))))))))))
       exact sn [] h
     ·refine Bd h rfl (fun h => ?_) fun h => ?_
      ·refine As Ac rfl (Bx Fx JK rfl (qs Bc rfl (qa rfl (Ad ?_))))
       obtain rfl := sj h
       refine Ak ((AA 6 0 2010 1 _ rfl rfl rfl rfl).trans ((AA 6 1 2011 1 _ rfl rfl rfl rfl).trans ((AA 6 2 2012 1 _ rfl rfl rfl rfl).trans (sm [(1000, 2010), (1001, 2011), (1002, 2012)] [(6, oD (.ptr 6 0)), (7, iD 4)] [(6, .box [.own 1000, .own 1001, .own 1002]), (1000, .vec 1 ((([] : List Int)).map Aw)), (1001, .vec 1 ((([] : List Int)).map Aw)), (1002, .vec 1 ((([] : List Int)).map EI))] rfl rfl)))) (Ax ?_)
       exact ⟨⟨[_, _], ⟨.cellN _ _ _ _ _ _ _ rfl rfl CF Bc rfl rfl (Kj rfl), ⟨.tmp _ _ rfl, tv⟩⟩, rfl⟩, ⟨rfl, rfl, rfl, tv⟩⟩
      ·refine Ao (As Ac rfl (qL D0 CX rfl (qL CF Bc rfl (qL H3 DQ rfl ?_))))
       obtain ⟨v15, a15, h⟩ := bind_some h
       refine AF [2013, 2014, 2015] (JA N p0 p1 p2 v15 a15) ZA rfl (qm rfl (qx rfl (qx rfl (qz Fx rfl (qs Bc rfl (qa rfl (Ad (Ap (As Ac rfl (qm rfl (CQ rfl (Ad ?_))))))))))))
       refine Bd h rfl (fun h => ?_) fun h => ?_
       ·refine As Ac rfl (Bx Fx JK rfl (qs Bc rfl (qa rfl (Ad ?_))))
        obtain rfl := sj h
        refine Ak ((AA 6 0 2016 1 _ rfl rfl rfl rfl).trans ((AA 6 1 2017 1 _ rfl rfl rfl rfl).trans ((AA 6 2 2018 1 _ rfl rfl rfl rfl).trans (sm [(1000, 2016), (1001, 2017), (1002, 2018)] [(6, oD (.ptr 6 0)), (7, iD 11)] [(6, .box [.own 1000, .own 1001, .own 1002]), (1000, .vec 1 ((([] : List Int)).map Aw)), (1001, .vec 1 ((([] : List Int)).map Aw)), (1002, .vec 1 ((([] : List Int)).map EI))] rfl rfl)))) (Ax ?_)
        exact ⟨⟨[_, _], ⟨.cellN _ _ _ _ _ _ _ rfl rfl CF Bc rfl rfl (Kj rfl), ⟨.tmp _ _ rfl, tv⟩⟩, rfl⟩, ⟨rfl, rfl, rfl, tv⟩⟩
       ·refine Ao (As Ac rfl (qL CF Bc rfl (qs Bc rfl (qa rfl (Ad ?_)))))
        obtain rfl := sj h
        refine Ak (sm [(1000, 2013), (1001, 2014), (1002, 2015)] [(6, oD (.ptr 6 0)), (7, iD 0)] [(6, .box [.own 1000, .own 1001, .own 1002]), (1000, .vec 1 (v15.1.fd.map Aw)), (1001, .vec 1 (v15.1.fa.map Aw)), (1002, .vec 1 (v15.1.fe.map EI))] rfl rfl) (Ax ?_)
        exact ⟨⟨[_, _], ⟨.cellN _ _ _ _ _ _ _ rfl rfl CF Bc rfl rfl (Kj rfl), ⟨.tmp _ _ rfl, tv⟩⟩, rfl⟩, ⟨rfl, rfl, rfl, tv⟩⟩
theorem MA (N : Nat) (p0 : Ae) (p1 : Ag) (r : (List Ai)) (h : FI N p0 p1 = some r) : Ay Tryz.prog 119 [.e (.agg (Al p0)), .e (.agg (AR p1))] [(3, r.map AP)] (oD (.own 0)) := by
 unfold FI at h
 refine An (n := 49) (rs := [.tmp 4]) Tryz.func119 rfl rfl rfl (A2 rfl) (A2 rfl) rfl fun w0 S0 => ?_
 refine As Ac rfl (qb rfl (qb rfl (qa rfl (Ad (As Ac rfl (qa rfl (Ad (Ap (As Ac rfl (qa rfl (Ad ?_)))))))))))
 refine AB (L := BM N p0 p1) h (fun v1 => mk [(2, oD (.ptr 2 0)), (3, oD (.ptr 3 0)), (5, oD (.own 2001)), (6, iD v1.2)] [(2, .box (Al p0)), (3, .box (AR p1)), (2001, .vec 3 (v1.1.map AP))]) (fun v2 => mk [(5, oD (.own 2002))] [(2002, .vec 3 (v2.map AP))]) (fun _ _ => rfl) ((Bl 5 2011 3 rfl rfl rfl).trans (sm [(2001, 2011)] _ _ rfl rfl)) (fun j1 n1 v1 h => ?_) (fun v2 s h hs => ?_)
 ·unfold BM at h
  refine Ap (As Ac rfl (qm rfl (K0 rfl (Ad ?_))))
  refine Bd h rfl (fun h => ?_) fun h => ?_
  ·refine Ao (Ap (AL (As Ac rfl (qa rfl (Ad ?_)))))
   refine AB (L := CK N p0 p1 v1) h (fun v4 => mk [(2, oD (.ptr 2 0)), (3, oD (.ptr 3 0)), (5, oD (.own 2003)), (6, iD v1.2), (7, iD v4.2)] [(2, .box (Al p0)), (3, .box (AR p1)), (2003, .vec 3 (v4.1.map AP))]) (fun v5 => mk [(2, oD (.ptr 2 0)), (3, oD (.ptr 3 0)), (5, oD (.own 2004)), (6, iD v1.2)] [(2, .box (Al p0)), (3, .box (AR p1)), (2004, .vec 3 (v5.map AP))]) (fun _ _ => rfl) (sm [(2003, 2001)] _ _ rfl rfl) (fun j4 n4 v4 h => ?_) (fun v5 s h hs => ?_)
   ·unfold CK at h
    refine Ap (As Ac rfl (qm rfl (qf BD rfl (ql Bi rfl (AZ AG rfl (qf BG rfl (ql Gy rfl (AZ C6 rfl ?_))))))))
    refine co (.p rfl) rfl rfl ?_
    refine A0 rfl (Ad ?_)
    refine Bd h rfl (fun h => ?_) fun h => ?_
    ·refine Ao (Ap (AL (As Ac rfl (qa rfl (Ad ?_)))))
     refine AB (L := CJ N p0 p1 v1 v4) h (fun v7 => mk [(2, oD (.ptr 2 0)), (3, oD (.ptr 3 0)), (5, oD (.own 2005)), (6, iD v1.2), (7, iD v4.2), (8, iD v7.2)] [(2, .box (Al p0)), (3, .box (AR p1)), (2005, .vec 3 (v7.1.map AP))]) (fun v8 => mk [(2, oD (.ptr 2 0)), (3, oD (.ptr 3 0)), (5, oD (.own 2006)), (6, iD v1.2), (7, iD v4.2)] [(2, .box (Al p0)), (3, .box (AR p1)), (2006, .vec 3 (v8.map AP))]) (fun _ _ => rfl) (sm [(2005, 2003)] _ _ rfl rfl) (fun j7 n7 v7 h => ?_) (fun v8 s h hs => ?_)
     ·unfold CJ at h
      refine Ap (As Ac rfl (qm rfl (A0 rfl (Ad ?_))))
      refine Bd h rfl (fun h => ?_) fun h => ?_
      ·refine Ao ?_
       refine AU h (fun v10 => mk [(2, oD (.ptr 2 0)), (3, oD (.ptr 3 0)), (5, oD (.own 2007)), (6, iD v1.2), (7, iD v4.2), (8, iD v7.2)] [(2, .box (Al p0)), (3, .box (AR p1)), (2007, .vec 3 (v10.map AP))]) (fun j10 h => ?_) (fun v10 h => ?_)
       ·refine AL (As Ac rfl (qm rfl (qm rfl (qm rfl (Bx I8 Vz rfl (qz I8 rfl (qs DQ rfl (Ad (As Ac rfl (qL D0 CX rfl (qL CF Bc rfl (qL H3 DQ rfl ?_))))))))))))
        obtain ⟨v11, a11, h⟩ := bind_some h
        refine AF [2008, 2009, 2010] (MI N p0 p1 ((Ai.mk v1.2 v4.2 v7.2)) v11 a11) dG rfl (qm rfl (qx rfl (qx rfl (qz Fx rfl (qs Bc rfl (qa rfl (Ad (As Ac rfl (qm rfl (B5 rfl (Ad ?_)))))))))))
        refine Bd h rfl (fun h => ?_) fun h => ?_
        ·refine Aj Ac rfl (qm rfl (qL H3 DQ rfl (E2 F2 DQ I8 rfl ?_)))
         obtain ⟨c13, h⟩ := AD h
         refine ED (f := AP) F2 F2 DQ Qz I8 c13 rfl (qa rfl (Ad ?_))
         exact sn [(2007, 47)] h
        ·refine Ao ?_
         exact sn [(2007, 2005)] h
       ·refine Aj Ac rfl (qm rfl (AW rfl (qa rfl (Ad ?_))))
        exact sn [(2005, 2007)] h
      ·refine AV ?_
       exact sn [(2006, 2005)] h
     ·refine Ak hs (Aj Ac rfl (qm rfl (AW rfl (qa rfl (Ad ?_)))))
      exact sn [(2003, 2006)] h
    ·refine AV ?_
     exact sn [(2004, 2003)] h
   ·refine Ak hs (Aj Ac rfl (qm rfl (AW rfl (qa rfl (Ad ?_)))))
    exact sn [(2001, 2004)] h
  ·refine AV ?_
   exact sn [(2002, 2001)] h
 ·refine Ak hs (As Ac rfl (qm rfl (qa rfl (Ad ?_))))
  obtain rfl := sj h
  refine Ak (sm [(1000, 2002)] [(4, oD (.own 1000))] [(1000, .vec 3 (v2.map AP))] rfl rfl) (Ax ?_)
  exact ⟨⟨[_], ⟨.tmp _ _ rfl, tv⟩, rfl⟩, ⟨rfl, tv⟩⟩
theorem It (N : Nat) (p0 : List Int) (p1 : List Int) (r : Int) (h : Er N p0 p1 = some r) : Ay Tryz.prog 159 [pD (.sl (p0.map Aw)), pD (.sl (p1.map Aw))] [] (iD r) := by
 unfold Er at h
 refine An (n := 46) (rs := [.tmp 4]) Tryz.func159 rfl rfl rfl (A2 rfl) (A2 rfl) rfl fun w0 S0 => ?_
 refine As Ac rfl (qa rfl (Ad (Ap (As Ac rfl (qa rfl (Ad ?_))))))
 refine AB (L := Ej N p0 p1) h (fun v1 => mk [(0, pD (.sl (p0.map Aw))), (1, pD (.sl (p1.map Aw))), (5, iD v1)] []) (fun v2 => mk [(0, pD (.sl (p0.map Aw))), (1, pD (.sl (p1.map Aw)))] []) (fun _ _ => rfl) (sm [] _ _ rfl rfl) (fun j1 n1 v1 h => ?_) (fun v2 s h hs => ?_)
 ·unfold Ej at h
  refine Ap ?_
  refine AU h (fun v3 => mk [(0, pD (.sl (p0.map Aw))), (1, pD (.sl (p1.map Aw))), (5, iD v1), (15, bD v3)] []) (fun j3 h => ?_) (fun v3 h => ?_)
  ·refine Aj Ac rfl (qm rfl (qm rfl (AZ AG rfl (A0 rfl (qm rfl ?_)))))
   refine E1 10 h rfl (fun h => ?_) fun h => ?_
   ·refine qm rfl (qm rfl (AZ AG rfl (A0 rfl (qp rfl (Ad ?_)))))
    exact sn [] h
   ·refine qn rfl (qn rfl (qn rfl (qn rfl (qp rfl (Ad ?_)))))
    exact sn [] h
  ·refine Bd h rfl (fun h => ?_) fun h => ?_
   ·refine Ao (Ap (AL (Ap (As Ac rfl (qm rfl (qm rfl ?_))))))
    obtain ⟨v6, a6, b6, h⟩ := Ah h
    refine qi AG En a6 (Af b6) rfl (qk CP rfl (qm rfl (qm rfl ?_)))
    obtain ⟨v7, a7, b7, h⟩ := Ah h
    refine qi AG En a7 (Af b7) rfl (qk CP rfl (A0 rfl (AJ (by kernel_rfl) ?_)))
    refine Bd h rfl (fun h => ?_) fun h => ?_
    ·refine As Ac rfl (qa rfl (Ad ?_))
     obtain rfl := sj h
     refine Ak (sm [] [(4, iD ((-1)))] [] rfl rfl) (Ax ?_)
     exact ⟨⟨[_], ⟨.tmp _ _ rfl, tv⟩, rfl⟩, tv⟩
    ·refine Ao (As Ac rfl (qm rfl (qm rfl ?_)))
     obtain ⟨v9, a9, b9, h⟩ := Ah h
     refine qi AG En a9 (Af b9) rfl (qk CP rfl (qm rfl (qm rfl ?_)))
     obtain ⟨v10, a10, b10, h⟩ := Ah h
     refine qi AG En a10 (Af b10) rfl (qk CP rfl (Gt rfl (AJ (by kernel_rfl) ?_)))
     refine Bd h rfl (fun h => ?_) fun h => ?_
     ·refine As Ac rfl (qa rfl (Ad ?_))
      obtain rfl := sj h
      refine Ak (sm [] [(4, iD 1)] [] rfl rfl) (Ax ?_)
      exact ⟨⟨[_], ⟨.tmp _ _ rfl, tv⟩, rfl⟩, tv⟩
     ·refine Ao (Aj Ac rfl (qm rfl (AW rfl (qa rfl (Ad ?_)))))
      exact sn [] h
   ·refine AV ?_
    exact sn [] h
 ·refine Ak hs (Ap (As Ac rfl (qm rfl (AZ AG rfl (qm rfl (AZ AG rfl (A0 rfl (Ad ?_))))))))
  refine Bd h rfl (fun h => ?_) fun h => ?_
  ·refine As Ac rfl (qa rfl (Ad ?_))
   obtain rfl := sj h
   refine Ak (sm [] [(4, iD ((-1)))] [] rfl rfl) (Ax ?_)
   exact ⟨⟨[_], ⟨.tmp _ _ rfl, tv⟩, rfl⟩, tv⟩
  ·refine Ao (Ap (As Ac rfl (qm rfl (AZ AG rfl (qm rfl (AZ AG rfl (Gt rfl (Ad ?_))))))))
   refine Bd h rfl (fun h => ?_) fun h => ?_
   ·refine As Ac rfl (qa rfl (Ad ?_))
    obtain rfl := sj h
    refine Ak (sm [] [(4, iD 1)] [] rfl rfl) (Ax ?_)
    exact ⟨⟨[_], ⟨.tmp _ _ rfl, tv⟩, rfl⟩, tv⟩
   ·refine Ao (As Ac rfl (qa rfl (Ad ?_)))
    obtain rfl := sj h
    refine Ak (sm [] [(4, iD 0)] [] rfl rfl) (Ax ?_)
    exact ⟨⟨[_], ⟨.tmp _ _ rfl, tv⟩, rfl⟩, tv⟩
theorem I7 (N : Nat) (p0 : List Int) (r : (List Int)) (h : Ek N p0 = some r) : Ay Tryz.prog 160 [pD (.sl (p0.map EI))] [(1, r.map Aw)] (oD (.own 0)) := by
 unfold Ek at h
 refine An (n := 20) (rs := [.tmp 2]) Tryz.func160 rfl rfl rfl (A2 rfl) (A2 rfl) rfl fun w0 S0 => ?_
 refine As Ac rfl (qa rfl (Ad (As Ac rfl (qa rfl (Ad (Ap (As Ac rfl (qa rfl (Ad ?_)))))))))
 refine AB (L := DD N p0) h (fun v1 => mk [(0, pD (.sl (p0.map EI))), (3, oD (.own 2001)), (4, iD v1.2)] [(2001, .vec 1 (v1.1.map Aw))]) (fun v2 => mk [(3, oD (.own 2002))] [(2002, .vec 1 (v2.map Aw))]) (fun _ _ => rfl) ((Bl 3 2003 1 rfl rfl rfl).trans (sm [(2001, 2003)] _ _ rfl rfl)) (fun j1 n1 v1 h => ?_) (fun v2 s h hs => ?_)
 ·unfold DD at h
  refine Ap (As Ac rfl (qm rfl (qm rfl (AZ EO rfl (A0 rfl (Ad ?_))))))
  refine Bd h rfl (fun h => ?_) fun h => ?_
  ·refine Ao (Ap (AL (Aj Ac rfl (qm rfl (qm rfl (qm rfl ?_))))))
   obtain ⟨v4, a4, b4, h⟩ := Ah h
   refine qi EO HB a4 (Af b4) rfl (qk LS rfl (I3 dT Yb rfl (E2 AG En Lb rfl ?_)))
   obtain ⟨c5, h⟩ := AD h
   refine ED (f := Aw) AG AG En L7 Lb c5 rfl (qa rfl (Ad (Aj Ac rfl (qm rfl (AW rfl (qa rfl (Ad ?_)))))))
   exact sn [(2001, 18)] h
  ·refine AV ?_
   exact sn [(2002, 2001)] h
 ·refine Ak hs (As Ac rfl (qm rfl (qa rfl (Ad ?_))))
  obtain rfl := sj h
  refine Ak (sm [(1000, 2002)] [(2, oD (.own 1000))] [(1000, .vec 1 (v2.map Aw))] rfl rfl) (Ax ?_)
  exact ⟨⟨[_], ⟨.tmp _ _ rfl, tv⟩, rfl⟩, ⟨rfl, tv⟩⟩
theorem LH (N : Nat) (p0 : Ag) (p1 : Ag) (r : Int) (h : E5 N p0 p1 = some r) : Ay Tryz.prog 155 [.e (.agg (AR p0)), .e (.agg (AR p1))] [] (iD r) := by
 unfold E5 at h
 refine An (n := 30) (rs := [.tmp 4]) Tryz.func155 rfl rfl rfl (A2 rfl) (A2 rfl) rfl fun w0 S0 => ?_
 refine As Ac rfl (qb rfl (qb rfl (qa rfl (Ad (Ap (As Ac rfl (qf DY rfl (ql Bi rfl (qf DY rfl (ql Bi rfl ?_))))))))))
 obtain ⟨v1, a1, h⟩ := bind_some h
 refine AF [] (It N p0.fd p1.fd v1 a1) Xh rfl (qa rfl (Ad (As Ac rfl (qm rfl (CU rfl (Ad ?_))))))
 refine Bd h rfl (fun h => ?_) fun h => ?_
 ·refine As Ac rfl (qm rfl (qa rfl (Ad ?_)))
  obtain rfl := sj h
  refine Ak (sm [] [(4, iD v1)] [] rfl rfl) (Ax ?_)
  exact ⟨⟨[_], ⟨.tmp _ _ rfl, tv⟩, rfl⟩, tv⟩
 ·refine Ao (Ap (As Ac rfl (qf B8 rfl (ql Bi rfl (qf B8 rfl (ql Bi rfl ?_))))))
  obtain ⟨v3, a3, h⟩ := bind_some h
  refine AF [] (It N p0.fa p1.fa v3 a3) Xh rfl (qa rfl (Ad (As Ac rfl (qm rfl (CU rfl (Ad ?_))))))
  refine Bd h rfl (fun h => ?_) fun h => ?_
  ·refine As Ac rfl (qm rfl (qa rfl (Ad ?_)))
   obtain rfl := sj h
   refine Ak (sm [] [(4, iD v3)] [] rfl rfl) (Ax ?_)
   exact ⟨⟨[_], ⟨.tmp _ _ rfl, tv⟩, rfl⟩, tv⟩
  ·refine Ao (As Ac rfl (qf DF rfl (ql II rfl ?_)))
   obtain ⟨v5, a5, h⟩ := bind_some h
   refine AF [2001] (I7 N p0.fe v5 a5) ZK rfl (qf DF rfl (ql II rfl ?_))
   obtain ⟨v6, a6, h⟩ := bind_some h
   refine AF [2002] (I7 N p1.fe v6 a6) ZK rfl ?_
   obtain ⟨v7, a7, h⟩ := bind_some h
   refine Fz [] [2001, 2002] (It N v5 v6 v7 a7) Xh DE rfl (qa rfl (AJ (by kernel_rfl) ?_))
   obtain rfl := sj h
   refine Ak (sm [] [(4, iD v7)] [] rfl rfl) (Ax ?_)
   exact ⟨⟨[_], ⟨.tmp _ _ rfl, tv⟩, rfl⟩, tv⟩
theorem Mx (N : Nat) (p0 : Ag) (p1 : Ag) (r : Bool) (h : FD N p0 p1 = some r) : Ay Tryz.prog 145 [.e (.agg (AR p0)), .e (.agg (AR p1))] [] (bD r) := by
 unfold FD at h
 refine An (n := 9) (rs := [.tmp 4]) Tryz.func145 rfl rfl rfl (A2 rfl) (A2 rfl) rfl fun w0 S0 => ?_
 refine As Ac rfl (qb rfl (qb rfl (qa rfl (Ad (As Ac rfl (qL CF Bc rfl (qL CF Bc rfl ?_)))))))
 obtain ⟨v1, a1, h⟩ := bind_some h
 refine AF [] (LH N p0 p1 v1 a1) ce rfl (B5 rfl (qa rfl (Ad ?_)))
 obtain rfl := sj h
 refine Ak (sm [] [(4, bD ((v1 == 0)))] [] rfl rfl) (Ax ?_)
 exact ⟨⟨[_], ⟨.tmp _ _ rfl, tv⟩, rfl⟩, tv⟩
theorem M0 (N : Nat) (p0 : List AN) (p1 : Ag) (r : Int) (h : Fb N p0 p1 = some r) : Ay Tryz.prog 120 [pD (.sl (p0.map CV)), .e (.agg (AR p1))] [] (iD r) := by
 unfold Fb at h
 refine An (n := 20) (rs := [.tmp 4]) Tryz.func120 rfl rfl rfl (A2 rfl) (A2 rfl) rfl fun w0 S0 => ?_
 refine As Ac rfl (qb rfl (qa rfl (Ad (Ap (As Ac rfl (qa rfl (Ad ?_)))))))
 refine AB (L := C2 N p0 p1) h (fun v1 => mk [(0, pD (.sl (p0.map CV))), (3, oD (.ptr 3 0)), (5, iD v1)] [(3, .box (AR p1))]) (fun v2 => mk [] []) (fun _ _ => rfl) (sm [] _ _ rfl rfl) (fun j1 n1 v1 h => ?_) (fun v2 s h hs => ?_)
 ·unfold C2 at h
  refine Ap (As Ac rfl (qm rfl (qm rfl (AZ KQ rfl (A0 rfl (Ad ?_))))))
  refine Bd h rfl (fun h => ?_) fun h => ?_
  ·refine Ao (Ap (AL (As Ac rfl (qm rfl (qm rfl ?_)))))
   obtain ⟨v4, a4, b4, h⟩ := Ah h
   refine qi KQ Ru a4 (Af b4) rfl (qg Qx rfl (qK CF Bc rfl (qL CF Bc rfl ?_)))
   obtain ⟨v5, a5, h⟩ := bind_some h
   refine AF [] (Mx N ((Ag.mk v4.fy.fd v4.fy.fa v4.fy.fe)) p1 v5 a5) cF rfl (AJ (by kernel_rfl) ?_)
   refine Bd h rfl (fun h => ?_) fun h => ?_
   ·refine As Ac rfl (qm rfl (qa rfl (Ad ?_)))
    obtain rfl := sj h
    refine Ak (sm [] [(4, iD v1)] [] rfl rfl) (Ax ?_)
    exact ⟨⟨[_], ⟨.tmp _ _ rfl, tv⟩, rfl⟩, tv⟩
   ·refine Ao (Aj Ac rfl (qm rfl (AW rfl (qa rfl (Ad ?_)))))
    exact sn [] h
  ·refine AV ?_
   exact sn [] h
 ·refine Ak hs (As Ac rfl (qa rfl (Ad ?_)))
  obtain rfl := sj h
  refine Ak (sm [] [(4, iD ((-1)))] [] rfl rfl) (Ax ?_)
  exact ⟨⟨[_], ⟨.tmp _ _ rfl, tv⟩, rfl⟩, tv⟩
theorem MD (N : Nat) (p0 : Ae) (p1 : Ag) (p2 : Int) (r : (List AN) × Bool) (h : EQ N p0 p1 p2 = some r) : Ay Tryz.prog 85 [.e (.agg (Al p0)), .e (.agg (AR p1)), iD p2] [(7, r.1.map CV)] (.tup [.one (.own 0), .one (.pure (.val (.bool r.2)))]) := by
 unfold EQ at h
 refine An (n := 74) (rs := [.tmp 6, .tmp 7]) Tryz.func85 rfl rfl rfl (A2 rfl) (A2 rfl) rfl fun w0 S0 => ?_
 refine As Ac rfl (qb rfl (qb rfl (qa rfl (qa rfl (Ad (As Ac rfl (qL CF Bc rfl (Bx S3 ZY rfl (E2 KQ Ru S3 rfl (qa rfl (Ad (Ap (As Ac rfl (qa rfl (Ad ?_)))))))))))))))
 refine AB (L := B9 N p0 p2) h (fun v1 => mk [(2, iD p2), (3, oD (.ptr 3 0)), (8, oD (.own 2001)), (9, iD v1.2)] [(3, .box (Al p0)), (2001, .vec 7 (v1.1.map CV))]) (fun v2 => mk [(8, oD (.own 2002))] [(2002, .vec 7 (v2.map CV))]) (fun _ _ => rfl) (sm [(2001, 16)] _ _ rfl rfl) (fun j1 n1 v1 h => ?_) (fun v2 s h hs => ?_)
 ·unfold B9 at h
  refine Ap (As Ac rfl (qm rfl (qm rfl (D9 KQ rfl (A0 rfl (Ad ?_))))))
  refine Bd h rfl (fun h => ?_) fun h => ?_
  ·refine Ao (Ap (AL (As Ac rfl (qL D0 CX rfl (qm rfl (qm rfl ?_))))))
   obtain ⟨v4, a4, b4, h⟩ := Ah h
   refine qI KQ Ru a4 (Af b4) rfl (qh Qx rfl ?_)
   refine Tz (.p rfl) rfl CF Bc rfl (Af b4) rfl rfl (by decide) ?_
   obtain ⟨v5, a5, h⟩ := bind_some h
   refine AF [2003] (MA N p0 ((Ag.mk v4.fy.fd v4.fy.fa v4.fy.fe)) v5 a5) cr rfl (qa rfl (AJ (by kernel_rfl) (As Ac rfl (qa rfl (Ad ?_)))))
   refine AB (L := Cb N p0 p2 v1 v5) h (fun v6 => mk [(2, iD p2), (3, oD (.ptr 3 0)), (8, oD (.own 2004)), (9, iD v1.2), (10, oD (.own 2005)), (11, iD v6.2)] [(3, .box (Al p0)), (2004, .vec 7 (v6.1.map CV)), (2005, .vec 3 (v5.map AP))]) (fun v7 => mk [(2, iD p2), (3, oD (.ptr 3 0)), (8, oD (.own 2006)), (9, iD v1.2)] [(3, .box (Al p0)), (2006, .vec 7 (v7.map CV))]) (fun _ _ => rfl) (sm [(2004, 2001), (2005, 2003)] _ _ rfl rfl) (fun j6 n6 v6 h => ?_) (fun v7 s h hs => ?_)
   ·unfold Cb at h
    refine Ap (As Ac rfl (qm rfl (qm rfl (D9 F2 rfl (A0 rfl (Ad ?_))))))
    refine Bd h rfl (fun h => ?_) fun h => ?_
    ·refine Ao (Ap (AL (As Ac rfl (qL D0 CX rfl (qm rfl (qm rfl ?_))))))
     obtain ⟨v9, a9, b9, h⟩ := Ah h
     refine qI KQ Ru a9 (Af b9) rfl (qh Qx rfl ?_)
     refine Tz (.p rfl) rfl CF Bc rfl (Af b9) rfl rfl (by decide) ?_
     refine qm rfl (qm rfl ?_)
     obtain ⟨v10, a10, b10, h⟩ := Ah h
     refine qI F2 DQ a10 (Af b10) rfl (qJ H3 DQ (Af b10) rfl ?_)
     obtain ⟨v11, a11, h⟩ := bind_some h
     refine AF [2007, 2008, 2009] (JA N p0 ((Ag.mk v9.fy.fd v9.fy.fa v9.fy.fe)) v10 v11 a11) ZA rfl (qm rfl (qx rfl (qx rfl (qz Fx rfl (qs Bc rfl (qa rfl (AJ (by kernel_rfl) ?_)))))))
     refine AU h (fun v12 => mk [(2, iD p2), (3, oD (.ptr 3 0)), (8, oD (.own 2010)), (9, iD v1.2), (10, oD (.own 2011)), (11, iD v6.2)] [(3, .box (Al p0)), (2010, .vec 7 (v12.map CV)), (2011, .vec 3 (v5.map AP))]) (fun j12 h => ?_) (fun v12 h => ?_)
     ·refine AU h (fun v13 => mk [(2, iD p2), (3, oD (.ptr 3 0)), (8, oD (.own 2015)), (9, iD v1.2), (10, oD (.own 2016)), (11, iD v6.2), (12, oD (.ptr 12 0)), (58, bD v13)] [(3, .box (Al p0)), (12, .box [.own 2012, .own 2013, .own 2014]), (2012, .vec 1 (v11.1.fd.map Aw)), (2013, .vec 1 (v11.1.fa.map Aw)), (2014, .vec 1 (v11.1.fe.map EI)), (2015, .vec 7 (v6.1.map CV)), (2016, .vec 3 (v5.map AP))]) (fun j13 h => ?_) (fun v13 h => ?_)
      ·refine Aj Ac rfl (qL D0 CX rfl (qL CF Bc rfl ?_))
       obtain ⟨v14, a14, h⟩ := bind_some h
       refine Fz [] [2007, 2008, 2009] (I5 N p0 v11.1 v14 a14) bd DE rfl (qm rfl ?_)
       refine E1 53 h rfl (fun h => ?_) fun h => ?_
       ·refine qm rfl (qL CF Bc rfl ?_)
        obtain ⟨v16, a16, h⟩ := bind_some h
        refine Fz [] [2004, 2007, 2008, 2009] (M0 N v6.1 v11.1 v16 a16) bm DE rfl (A0 rfl (qp rfl (Ad ?_)))
        exact sn [(2012, 2007), (2013, 2008), (2014, 2009), (2015, 2004), (2016, 2005)] h
       ·refine qn rfl (qn rfl (qn rfl (qn rfl (qp rfl (Ad ?_)))))
        exact sn [(2012, 2007), (2013, 2008), (2014, 2009), (2015, 2004), (2016, 2005)] h
      ·refine Bd h rfl (fun h => ?_) fun h => ?_
       ·refine Ak (BX 2012 _ _ rfl rfl) (Ak (BX 2013 _ _ rfl rfl) (Ak (BX 2014 _ _ rfl rfl) (Aj Ac rfl (qm rfl (qL CF Bc rfl (qm rfl (qm rfl (qm rfl ?_))))))))
        obtain ⟨v18, a18, b18, h⟩ := Ah h
        refine qI F2 DQ a18 (Af b18) rfl (qJ H3 DQ (Af b18) rfl (Bx S3 ZY rfl (E2 KQ Ru S3 rfl ?_)))
        obtain ⟨c19, h⟩ := AD h
        refine ED (f := CV) KQ KQ Ru aH S3 c19 rfl (qa rfl (AJ (by kernel_rfl) ?_))
        exact sn [(2010, 68), (2011, 2016)] h
       ·refine Ao ?_
        exact sn [(2010, 2015), (2011, 2016)] h
     ·refine As Ac rfl (qm rfl (D9 KQ rfl (qm rfl (Gt rfl (Ad ?_)))))
      refine Bd h rfl (fun h => ?_) fun h => ?_
      ·refine As Ac rfl (qa rfl (qa rfl (Ad ?_)))
       obtain rfl := sj h
       refine Ak ((Bl 6 2017 7 rfl rfl rfl).trans (sm [(1000, 2017)] [(6, oD (.own 1000)), (7, bD false)] [(1000, .vec 7 ((([] : List AN)).map CV))] rfl rfl)) (Ax ?_)
       exact ⟨⟨[_, _], ⟨.tmp _ _ rfl, ⟨.tmp _ _ rfl, tv⟩⟩, rfl⟩, ⟨rfl, tv⟩⟩
      ·refine Ao (Aj Ac rfl (qm rfl (AW rfl (qa rfl (Ad ?_)))))
       exact sn [(2004, 2010), (2005, 2011)] h
    ·refine AV ?_
     exact sn [(2006, 2004)] h
   ·refine Ak hs (Aj Ac rfl (qm rfl (AW rfl (qa rfl (Ad ?_)))))
    exact sn [(2001, 2006)] h
  ·refine AV ?_
   exact sn [(2002, 2001)] h
 ·refine Ak hs (As Ac rfl (qm rfl (qa rfl (qa rfl (Ad ?_)))))
  obtain rfl := sj h
  refine Ak (sm [(1000, 2002)] [(6, oD (.own 1000)), (7, bD true)] [(1000, .vec 7 (v2.map CV))] rfl rfl) (Ax ?_)
  exact ⟨⟨[_, _], ⟨.tmp _ _ rfl, ⟨.tmp _ _ rfl, tv⟩⟩, rfl⟩, ⟨rfl, tv⟩⟩
theorem MC (N : Nat) (p0 : Ae) (p1 : Int) (r : Bool) (h : FL N p0 p1 = some r) : Ay Tryz.prog 59 [.e (.agg (Al p0)), iD p1] [] (bD r) := by
 unfold FL at h
 refine An (n := 30) (rs := [.tmp 4]) Tryz.func59 rfl rfl rfl (A2 rfl) (A2 rfl) rfl fun w0 S0 => ?_
 refine As Ac rfl (qb rfl (qa rfl (Ad (As Ac rfl (qL D0 CX rfl ?_)))))
 obtain ⟨v1, a1, h⟩ := bind_some h
 refine AF [2001, 2002, 2003] (Mz N p0 v1 a1) dq rfl (qm rfl (qx rfl (qx rfl (qz Fx rfl (qs Bc rfl (qa rfl (Ad (Ap ?_))))))))
 refine AU h (fun v2 => mk [(1, iD p1), (2, oD (.ptr 2 0)), (5, oD (.ptr 5 0)), (21, bD v2)] [(2, .box (Al p0)), (5, .box [.own 2004, .own 2005, .own 2006]), (2004, .vec 1 (v1.1.fd.map Aw)), (2005, .vec 1 (v1.1.fa.map Aw)), (2006, .vec 1 (v1.1.fe.map EI))]) (fun j2 h => ?_) (fun v2 h => ?_)
 ·refine Aj Ac rfl (qm rfl (CU rfl (qm rfl ?_)))
  refine E1 16 h rfl (fun h => ?_) fun h => ?_
  ·refine qn rfl (qn rfl (qn rfl (qn rfl (qp rfl (Ad ?_)))))
   exact sn [(2004, 2001), (2005, 2002), (2006, 2003)] h
  ·refine qL D0 CX rfl (qL CF Bc rfl ?_)
   obtain ⟨v4, a4, h⟩ := bind_some h
   refine Fz [] [2001, 2002, 2003] (I5 N p0 v1.1 v4 a4) bd DE rfl (CQ rfl (qp rfl (Ad ?_)))
   exact sn [(2004, 2001), (2005, 2002), (2006, 2003)] h
 ·refine Bd h rfl (fun h => ?_) fun h => ?_
  ·refine As Ac rfl (qa rfl (Ad ?_))
   obtain rfl := sj h
   refine Ak (sm [] [(4, bD true)] [] rfl rfl) (Ax ?_)
   exact ⟨⟨[_], ⟨.tmp _ _ rfl, tv⟩, rfl⟩, tv⟩
  ·refine Ao (As Ac rfl (qL D0 CX rfl (qL CF Bc rfl (qm rfl (E0 (BX 2004 _ _ rfl rfl) (E0 (BX 2005 _ _ rfl rfl) (E0 (BX 2006 _ _ rfl rfl) ?_)))))))
   obtain ⟨v6, a6, h⟩ := bind_some h
   refine AF [2007] (MD N p0 v1.1 p1 v6 a6) dA rfl (qm rfl (qx rfl (qx rfl (qa rfl (qa rfl (Ad (As Ac rfl (qm rfl (qa rfl (Ad ?_))))))))))
   obtain rfl := sj h
   refine Ak (sm [] [(4, bD v6.2)] [] rfl rfl) (Ax ?_)
   exact ⟨⟨[_], ⟨.tmp _ _ rfl, tv⟩, rfl⟩, tv⟩
theorem My (N : Nat) (p0 : Ae) (r : Bool) (h : Gx N p0 = some r) : Ay Tryz.prog 33 [.e (.agg (Al p0))] [] (bD r) := by
 unfold Gx at h
 refine An (n := 15) (rs := [.tmp 2]) Tryz.func33 rfl rfl rfl (A2 rfl) (A2 rfl) rfl fun w0 S0 => ?_
 refine As Ac rfl (qb rfl (qa rfl (Ad (As Ac rfl (qL D0 CX rfl ?_)))))
 obtain ⟨v1, a1, h⟩ := bind_some h
 refine AF [2001] (LJ N p0 v1 a1) dN rfl (qa rfl (Ad ?_))
 refine AU h (fun v2 => mk [(2, bD v2)] []) (fun j2 h => ?_) (fun v2 h => ?_)
 ·refine Aj Ac rfl (qm rfl (D9 AT rfl (K0 rfl (qm rfl ?_))))
  refine E1 9 h rfl (fun h => ?_) fun h => ?_
  ·refine qL D0 CX rfl (qm rfl (E0 (BX 2001 _ _ rfl rfl) ?_))
   obtain ⟨v4, a4, h⟩ := bind_some h
   refine AF [2002, 2003, 2004] (MZ N p0 v1 v4 a4) d7 rfl ?_
   obtain ⟨v5, a5, h⟩ := bind_some h
   refine Fz [] [2002, 2003, 2004] (MC N v4 60 v5 a5) dC DE rfl (qp rfl (qa rfl (Ad ?_)))
   exact sn [] h
  ·refine qn rfl (qn rfl (qn rfl (qn rfl (qp rfl (qa rfl (Ad ?_))))))
   exact sn [] h
 ·obtain rfl := sj h
  refine Ak (sm [] [(2, bD v2)] [] rfl rfl) (Ax ?_)
  exact ⟨⟨[_], ⟨.tmp _ _ rfl, tv⟩, rfl⟩, tv⟩
theorem OB (N : Nat) (p0 : BW) (r : Ae × Bool) (h : GG N p0 = some r) : Ay Tryz.prog 10 [.e (.agg (Dr p0))] [(1, r.1.fb.map Aw), (1, r.1.fh.map Aw), (1, r.1.fo.map Aw), (6, r.1.fc.map AO)] (.tup [.agg [.own 0, .own 1, .own 2, .own 3], .one (.pure (.val (.bool r.2)))]) := by
 unfold GG at h
 refine An (n := 23) (rs := [.cell 2 29, .tmp 3]) Tryz.func10 rfl rfl rfl (A2 rfl) (A2 rfl) rfl fun w0 S0 => ?_
 refine As Ac rfl (qb rfl (qz LM rfl (qa rfl (Ad (As Ac rfl (qL cg bL rfl ?_))))))
 obtain ⟨v1, a1, h⟩ := bind_some h
 refine AF [2001, 2002, 2003, 2004] (Oz N p0 v1 a1) dF rfl (qm rfl (qx rfl (qx rfl (qz LM rfl (qs CX rfl (qa rfl (Ad ?_)))))))
 refine AU h (fun v2 => mk [(2, oD (.ptr 2 0)), (3, bD v2)] [(2, .box [.own 2005, .own 2006, .own 2007, .own 2008]), (2005, .vec 1 (v1.1.fb.map Aw)), (2006, .vec 1 (v1.1.fh.map Aw)), (2007, .vec 1 (v1.1.fo.map Aw)), (2008, .vec 6 (v1.1.fc.map AO))]) (fun j2 h => ?_) (fun v2 h => ?_)
 ·refine Aj Ac rfl (qL D0 CX rfl (qm rfl (qm rfl ?_)))
  refine E1 13 h rfl (fun h => ?_) fun h => ?_
  ·refine qf BD rfl (ql Bi rfl (D9 AG rfl (K0 rfl (qp rfl (qm rfl ?_)))))
   refine E1 19 h rfl (fun h => ?_) fun h => ?_
   ·refine qL D0 CX rfl ?_
    obtain ⟨v5, a5, h⟩ := bind_some h
    refine Fz [] [2001, 2002, 2003, 2004] (My N v1.1 v5 a5) du DE rfl (qp rfl (qs CX rfl (qa rfl (AJ (by kernel_rfl) ?_))))
    exact sn [(2005, 2001), (2006, 2002), (2007, 2003), (2008, 2004)] h
   ·refine qn rfl (qn rfl (qp rfl (qs CX rfl (qa rfl (AJ (by kernel_rfl) ?_)))))
    exact sn [(2005, 2001), (2006, 2002), (2007, 2003), (2008, 2004)] h
  ·refine qn rfl (qn rfl (qn rfl (qn rfl (qp rfl (qm rfl (qn rfl (qn rfl (qp rfl (qs CX rfl (qa rfl (AJ (by kernel_rfl) ?_)))))))))))
   exact sn [(2005, 2001), (2006, 2002), (2007, 2003), (2008, 2004)] h
 ·obtain rfl := sj h
  refine Ak (sm [(1000, 2005), (1001, 2006), (1002, 2007), (1003, 2008)] [(2, oD (.ptr 2 0)), (3, bD v2)] [(2, .box [.own 1000, .own 1001, .own 1002, .own 1003]), (1000, .vec 1 (v1.1.fb.map Aw)), (1001, .vec 1 (v1.1.fh.map Aw)), (1002, .vec 1 (v1.1.fo.map Aw)), (1003, .vec 6 (v1.1.fc.map AO))] rfl rfl) (Ax ?_)
  exact ⟨⟨[_, _], ⟨.cellN _ _ _ _ _ _ _ rfl rfl D0 CX rfl rfl (Kj rfl), ⟨.tmp _ _ rfl, tv⟩⟩, rfl⟩, ⟨rfl, rfl, rfl, rfl, tv⟩⟩
theorem Gr (N : Nat) (r : Ae) (h : El N = some r) : Ay Tryz.prog 34 [] [(1, r.fb.map Aw), (1, r.fh.map Aw), (1, r.fo.map Aw), (6, r.fc.map AO)] (.e (.agg [.own 0, .own 1, .own 2, .own 3])) := by
 unfold El at h
 refine An (n := 12) (rs := [.cell 0 29]) Tryz.func34 rfl rfl rfl (A2 rfl) (A2 rfl) rfl fun w0 S0 => ?_
 refine As Ac rfl (qz LM rfl (Ad (As Ac rfl (E2 EZ MO VF rfl (E2 EZ MO VF rfl (E0 (BX 2 _ _ rfl rfl) (E0 (BX 3 _ _ rfl rfl) (E2 D4 IH R6 rfl (Bx JO cS rfl (qz JO rfl (qs Dq rfl (Ad (As Ac rfl (E2 AG En Lb rfl (E2 AG En Lb rfl (E2 AG En Lb rfl (qL HQ Dq rfl (E0 (BX 4 _ _ rfl rfl) (E2 C6 Dq JO rfl (Bx LM V7 rfl (qs CX rfl (Ad ?_))))))))))))))))))))))
 obtain rfl := sj h
 refine Ak (sm [(1000, 6), (1001, 7), (1002, 8), (1003, 10)] [(0, oD (.ptr 0 0))] [(0, .box [.own 1000, .own 1001, .own 1002, .own 1003]), (1000, .vec 1 ((([2, 2] : List Int)).map Aw)), (1001, .vec 1 ((([0, 0] : List Int)).map Aw)), (1002, .vec 1 ((([1, 1] : List Int)).map Aw)), (1003, .vec 6 ((([(Ar.mk 1 0 1 false (([([true, false] : List Bool), ([false, true] : List Bool)] : List (List Bool))) (([] : List (List Bool))))] : List Ar)).map AO))] rfl rfl) (Ax ?_)
 exact ⟨⟨[_], ⟨.cellN _ _ _ _ _ _ _ rfl rfl D0 CX rfl rfl (Kj rfl), tv⟩, rfl⟩, ⟨rfl, rfl, rfl, rfl, tv⟩⟩
theorem IY (N : Nat) (p0 : Int) (p1 : Int) (r : Bool) (h : Fe N p0 p1 = some r) : Ay Tryz.prog 76 [iD p0, iD p1] [] (bD r) := by
 unfold Fe at h
 refine An (n := 12) (rs := [.tmp 4]) Tryz.func76 rfl rfl rfl (A2 rfl) (A2 rfl) rfl fun w0 S0 => ?_
 refine As Ac rfl (qa rfl (Ad ?_))
 refine AU h (fun v1 => mk [(4, bD v1)] []) (fun j1 h => ?_) (fun v1 h => ?_)
 ·refine Aj Ac rfl (qm rfl (Ee rfl (qm rfl ?_)))
  refine E1 7 h rfl (fun h => ?_) fun h => ?_
  ·refine qm rfl (qm rfl (A0 rfl (qp rfl (qa rfl (Ad ?_)))))
   exact sn [] h
  ·refine qn rfl (qn rfl (qn rfl (qp rfl (qa rfl (Ad ?_)))))
   exact sn [] h
 ·obtain rfl := sj h
  refine Ak (sm [] [(4, bD v1)] [] rfl rfl) (Ax ?_)
  exact ⟨⟨[_], ⟨.tmp _ _ rfl, tv⟩, rfl⟩, tv⟩
theorem Sm (N : Nat) (p0 : Int) (p1 : Bool) (r : Bool) (h : Il N p0 p1 = some r) : Ay Tryz.prog 110 [iD p0, bD p1] [] (bD r) := by
 unfold Il at h
 refine An (n := 23) (rs := [.tmp 4]) Tryz.func110 rfl rfl rfl (A2 rfl) (A2 rfl) rfl fun w0 S0 => ?_
 refine As Ac rfl (qa rfl (Ad ?_))
 refine AU h (fun v1 => mk [(4, bD v1)] []) (fun j1 h => ?_) (fun v1 h => ?_)
 ·refine Aj Ac rfl (qm rfl (B5 rfl (qm rfl ?_)))
  refine E1 7 h rfl (fun h => ?_) fun h => ?_
  ·refine qn rfl (qn rfl (qp rfl (qm rfl (qn rfl (qn rfl (qn rfl (qu rfl (qu rfl (qn rfl (qn rfl (qu rfl (qu rfl (qn rfl (qp rfl (qa rfl (Ad ?_))))))))))))))))
   exact sn [] h
  ·refine qm rfl (B5 rfl (qp rfl (qm rfl ?_)))
   refine E1 11 h rfl (fun h => ?_) fun h => ?_
   ·refine qn rfl (qn rfl (qn rfl (qu rfl (qu rfl (qn rfl (qn rfl (qu rfl (qu rfl (qn rfl (qp rfl (qa rfl (Ad ?_))))))))))))
    exact sn [] h
   ·refine qm rfl (B5 rfl (qm rfl ?_))
    refine E1 14 h rfl (fun h => ?_) fun h => ?_
    ·refine qn rfl (qn rfl (qp rfl (qm rfl (qm rfl (CQ rfl (qp rfl (qp rfl (qa rfl (Ad ?_)))))))))
     exact sn [] h
    ·refine qm rfl (B5 rfl (qp rfl (qm rfl ?_)))
     refine E1 18 h rfl (fun h => ?_) fun h => ?_
     ·refine qm rfl (CQ rfl (qp rfl (qp rfl (qa rfl (Ad ?_)))))
      exact sn [] h
     ·refine qn rfl (qn rfl (qp rfl (qp rfl (qa rfl (Ad ?_)))))
      exact sn [] h
 ·obtain rfl := sj h
  refine Ak (sm [] [(4, bD v1)] [] rfl rfl) (Ax ?_)
  exact ⟨⟨[_], ⟨.tmp _ _ rfl, tv⟩, rfl⟩, tv⟩
theorem Oj (N : Nat) (p0 : List Bool) (p1 : Int) (r : Bool) (h : E6 N p0 p1 = some r) : Ay Tryz.prog 141 [pD (.sl (p0.map eB)), oD (.rop [.val (.int .i64 p1)])] [] (bD r) := by
 unfold E6 at h
 refine An (n := 8) (rs := [.tmp 3]) Tryz.func141 rfl rfl rfl (A2 rfl) (A2 rfl) rfl fun w0 S0 => ?_
 refine As Ac rfl (qa rfl (Ad (As Ac rfl (qm rfl (AZ EZ rfl (qk CP rfl (CU rfl (qa rfl (Ad ?_)))))))))
 obtain rfl := sj h
 refine Ak (sm [] [(3, bD (((p0.length : Int) != p1)))] [] rfl rfl) (Ax ?_)
 exact ⟨⟨[_], ⟨.tmp _ _ rfl, tv⟩, rfl⟩, tv⟩
theorem Jx (N : Nat) (p0 : List (List Bool)) (p1 : (List Bool) → Option Bool) (r : Int) (h : Ez N p0 p1 = some r) : Ay Tryz.prog 154 [pD (.sl (p0.map (FP eB))), oD (.clo (Cy (O7 false (FP eB)) tB p1))] [] (iD r) := by
 unfold Ez at h
 refine An (n := 19) (rs := [.tmp 4]) Tryz.func154 rfl rfl rfl (A2 rfl) (A2 rfl) rfl fun w0 S0 => ?_
 refine As Ac rfl (qa rfl (Ad (Ap (As Ac rfl (qm rfl (AZ D4 rfl (qm rfl (Ad ?_))))))))
 refine AB (L := BH N p0 p1) h (fun v1 => mk [(0, pD (.sl (p0.map (FP eB)))), (1, oD (.clo (Cy (O7 false (FP eB)) tB p1))), (7, iD ((p0.length : Int))), (8, iD v1)] []) (fun v2 => mk [] []) (fun _ _ => rfl) (sm [] _ _ rfl rfl) (fun j1 n1 v1 h => ?_) (fun v2 s h hs => ?_)
 ·unfold BH at h
  refine As Ac rfl (A0 rfl (Ad (Ap ?_)))
  refine Bd h rfl (fun h => ?_) fun h => ?_
  ·refine Ao (Ap (AL (As Ac rfl (qm rfl (qa rfl (Ad (As Ac rfl (qm rfl (qm rfl (qm rfl ?_))))))))))
   obtain ⟨v4, a4, b4, h⟩ := Ah h
   refine qi D4 IH a4 (Af b4) rfl (qk L9 rfl ?_)
   obtain ⟨v5, a5, h⟩ := bind_some h
   refine F6 (ds0 := [_]) (ar := (O7 false (FP eB)) v4) (.p rfl) rfl rfl ⟨rfl, tv⟩ rfl rfl rfl (F3 (N7 _ _ (bu dE)) a5) ?_
   refine Ad ?_
   refine Bd h rfl (fun h => ?_) fun h => ?_
   ·refine As Ac rfl (qm rfl (qa rfl (Ad ?_)))
    obtain rfl := sj h
    refine Ak (sm [] [(4, iD v1)] [] rfl rfl) (Ax ?_)
    exact ⟨⟨[_], ⟨.tmp _ _ rfl, tv⟩, rfl⟩, tv⟩
   ·refine Ao (Aj Ac rfl (AW rfl (qm rfl (Ad ?_))))
    exact sn [] h
  ·refine AV ?_
   exact sn [] h
 ·refine Ak hs (As Ac rfl (qa rfl (Ad ?_)))
  obtain rfl := sj h
  refine Ak (sm [] [(4, iD ((-1)))] [] rfl rfl) (Ax ?_)
  exact ⟨⟨[_], ⟨.tmp _ _ rfl, tv⟩, rfl⟩, tv⟩
theorem I6 (N : Nat) (p0 : List (List Bool)) (p1 : (List Bool) → Option Bool) (r : Bool) (h : DV N p0 p1 = some r) : Ay Tryz.prog 140 [pD (.sl (p0.map (FP eB))), oD (.clo (Cy (O7 false (FP eB)) tB p1))] [] (bD r) := by
 unfold DV at h
 refine An (n := 9) (rs := [.tmp 4]) Tryz.func140 rfl rfl rfl (A2 rfl) (A2 rfl) rfl fun w0 S0 => ?_
 refine As Ac rfl (qa rfl (Ad (As Ac rfl (qm rfl (qm rfl ?_)))))
 obtain ⟨v1, a1, h⟩ := bind_some h
 refine AF [] (Jx N p0 p1 v1 a1) ck rfl (Ee rfl (qa rfl (Ad ?_)))
 obtain rfl := sj h
 refine Ak (sm [] [(4, bD ((decide (0 ≤ v1))))] [] rfl rfl) (Ax ?_)
 exact ⟨⟨[_], ⟨.tmp _ _ rfl, tv⟩, rfl⟩, tv⟩
theorem L4 (N : Nat) (p0 : List (List Bool)) (p1 : Int) (p2 : Int) (r : Bool) (h : Gu N p0 p1 p2 = some r) : Ay Tryz.prog 111 [pD (.sl (p0.map (FP eB))), iD p1, iD p2] [] (bD r) := by
 unfold Gu at h
 refine An (n := 17) (rs := [.tmp 6]) Tryz.func111 rfl rfl rfl (A2 rfl) (A2 rfl) rfl fun w0 S0 => ?_
 refine As Ac rfl (qb rfl (qa rfl (Ad ?_)))
 refine AU h (fun v1 => mk [(6, bD v1)] []) (fun j1 h => ?_) (fun v1 h => ?_)
 ·refine Aj Ac rfl (qm rfl (AZ D4 rfl (qm rfl (B5 rfl (qm rfl ?_)))))
  refine E1 11 h rfl (fun h => ?_) fun h => ?_
  ·refine qm rfl (E0 (NS 5 [.val (.int .i64 p2)] rfl rfl) ?_)
   refine Ng (capD := [_]) (Cy (O7 false (FP eB)) tB ((fun (x : List Bool) => E6 N x p2))) (.g rfl rfl) cA rfl ⟨rfl, tv⟩ rfl (fun ar t ht => by obtain ⟨x, r, rfl, hq, rfl⟩ := KT ht; exact Oj N x p2 r hq) ?_
   obtain ⟨v3, a3, h⟩ := bind_some h
   refine AF [] (I6 N p0 ((fun (x : List Bool) => E6 N x p2)) v3 a3) bz rfl (CQ rfl (qp rfl (qa rfl (Ad ?_))))
   exact sn [] h
  ·refine qn rfl (qn rfl (qn rfl (qn rfl (qp rfl (qa rfl (Ad ?_))))))
   exact sn [] h
 ·obtain rfl := sj h
  refine Ak (sm [] [(6, bD v1)] [] rfl rfl) (Ax ?_)
  exact ⟨⟨[_], ⟨.tmp _ _ rfl, tv⟩, rfl⟩, tv⟩
theorem QY (N : Nat) (p0 : Ae) (p1 : Ar) (r : Int) (h : HL N p0 p1 = some r) : Ay Tryz.prog 77 [.e (.agg (Al p0)), .e (.agg (Bt p1))] [] (iD r) := by
 unfold HL at h
 refine An (n := 87) (rs := [.tmp 4]) Tryz.func77 rfl rfl rfl (A2 rfl) (A2 rfl) rfl fun w0 S0 => ?_
 refine As Ac rfl (qb rfl (qb rfl (qa rfl (Ad (Ap (As Ac rfl (qf Hz rfl (ql CP rfl (qf KA rfl (ql Uf rfl ?_))))))))))
 obtain ⟨v1, a1, h⟩ := bind_some h
 refine AF [] (Sm N p1.ff p1.fp v1 a1) cn rfl (CQ rfl (Ad ?_))
 refine Bd h rfl (fun h => ?_) fun h => ?_
 ·refine As Ac rfl (qa rfl (Ad ?_))
  obtain rfl := sj h
  refine Ak (sm [] [(4, iD 1)] [] rfl rfl) (Ax ?_)
  exact ⟨⟨[_], ⟨.tmp _ _ rfl, tv⟩, rfl⟩, tv⟩
 ·refine Ao (Ap ?_)
  refine AU h (fun v3 => mk [(2, oD (.ptr 2 0)), (3, oD (.ptr 3 0)), (29, bD v3)] [(2, .box (Al p0)), (3, .box (Bt p1))]) (fun j3 h => ?_) (fun v3 h => ?_)
  ·refine Aj Ac rfl (qf Em rfl (ql CP rfl (qf BD rfl (ql Bi rfl (AZ AG rfl ?_)))))
   obtain ⟨v4, a4, h⟩ := bind_some h
   refine AF [] (IY N p1.fg ((p0.fb.length : Int)) v4 a4) YO rfl (CQ rfl (qm rfl ?_))
   refine E1 21 h rfl (fun h => ?_) fun h => ?_
   ·refine qn rfl (qn rfl (qn rfl (qn rfl (qn rfl (qn rfl (qn rfl (qp rfl (Ad ?_))))))))
    exact sn [] h
   ·refine qf JL rfl (ql CP rfl (qf BD rfl (ql Bi rfl (AZ AG rfl ?_))))
    obtain ⟨v6, a6, h⟩ := bind_some h
    refine AF [] (IY N p1.fk ((p0.fb.length : Int)) v6 a6) YO rfl (CQ rfl (qp rfl (Ad ?_)))
    exact sn [] h
  ·refine Bd h rfl (fun h => ?_) fun h => ?_
   ·refine As Ac rfl (qa rfl (Ad ?_))
    obtain rfl := sj h
    refine Ak (sm [] [(4, iD 4)] [] rfl rfl) (Ax ?_)
    exact ⟨⟨[_], ⟨.tmp _ _ rfl, tv⟩, rfl⟩, tv⟩
   ·refine Ao (As Ac rfl (qf BD rfl (ql Bi rfl (qf Em rfl (ql CP rfl ?_)))))
    obtain ⟨v8, a8, b8, h⟩ := Ah h
    refine qi AG En a8 (Af b8) rfl (qk CP rfl (qa rfl (Ad (As Ac rfl (qf Hz rfl (ql CP rfl (B5 rfl (qa rfl (Ad (Ap ?_))))))))))
    refine AU h (fun v9 => mk [(3, oD (.ptr 3 0)), (70, bD v9)] [(3, .box (Bt p1))]) (fun j9 h => ?_) (fun v9 h => ?_)
    ·refine Aj Ac rfl (qf Fj rfl (ql HA rfl (qm rfl (qf BD rfl (ql Bi rfl (qf JL rfl (ql CP rfl ?_)))))))
     obtain ⟨v10, a10, b10, h⟩ := Ah h
     refine qi AG En a10 (Af b10) rfl (qk CP rfl ?_)
     obtain ⟨v11, a11, h⟩ := bind_some h
     refine AF [] (L4 N p1.fj v8 v10 v11 a11) Zs rfl (CQ rfl (qm rfl ?_))
     refine E1 50 h rfl (fun h => ?_) fun h => ?_
     ·refine qn rfl (qn rfl (qu rfl (qu rfl (qu rfl (qu rfl (qu rfl (qu rfl (qn rfl (qp rfl (qm rfl (qn rfl (qn rfl (qn rfl (qu rfl (qu rfl (qu rfl (qu rfl (qn rfl (qp rfl (AJ (by kernel_rfl) ?_))))))))))))))))))))
      exact sn [] h
     ·refine qm rfl (qm rfl ?_)
      refine E1 52 h rfl (fun h => ?_) fun h => ?_
      ·refine qf Fh rfl (ql HA rfl (qm rfl (qm rfl ?_)))
       obtain ⟨v14, a14, h⟩ := bind_some h
       refine AF [] (L4 N p1.fm v8 v8 v14 a14) Zs rfl (CQ rfl (qp rfl (qp rfl (qm rfl ?_))))
       refine E1 61 h rfl (fun h => ?_) fun h => ?_
       ·refine qn rfl (qn rfl (qn rfl (qu rfl (qu rfl (qu rfl (qu rfl (qn rfl (qp rfl (AJ (by kernel_rfl) ?_)))))))))
        exact sn [] h
       ·refine qm rfl (CQ rfl (qm rfl ?_))
        refine E1 64 h rfl (fun h => ?_) fun h => ?_
        ·refine qf Fh rfl (ql HA rfl (AZ D4 rfl (Gt rfl (qp rfl (qp rfl (AJ (by kernel_rfl) ?_))))))
         exact sn [] h
        ·refine qn rfl (qn rfl (qn rfl (qn rfl (qp rfl (qp rfl (AJ (by kernel_rfl) ?_))))))
         exact sn [] h
      ·refine qn rfl (qn rfl (qn rfl (qn rfl (qn rfl (qn rfl (qp rfl (qp rfl (qm rfl (qm rfl (CQ rfl (qm rfl ?_)))))))))))
       refine E1 64 h rfl (fun h => ?_) fun h => ?_
       ·refine qf Fh rfl (ql HA rfl (AZ D4 rfl (Gt rfl (qp rfl (qp rfl (AJ (by kernel_rfl) ?_))))))
        exact sn [] h
       ·refine qn rfl (qn rfl (qn rfl (qn rfl (qp rfl (qp rfl (AJ (by kernel_rfl) ?_))))))
        exact sn [] h
    ·refine Bd h rfl (fun h => ?_) fun h => ?_
     ·refine As Ac rfl (qa rfl (Ad ?_))
      obtain rfl := sj h
      refine Ak (sm [] [(4, iD 6)] [] rfl rfl) (Ax ?_)
      exact ⟨⟨[_], ⟨.tmp _ _ rfl, tv⟩, rfl⟩, tv⟩
     ·refine Ao (Ap (As Ac rfl (qf Fh rfl (ql HA rfl (AZ D4 rfl (qm rfl (Ad ?_)))))))
      refine AB (L := D6 N p1) h (fun v19 => mk [(3, oD (.ptr 3 0)), (73, iD ((p1.fm.length : Int))), (74, iD v19)] [(3, .box (Bt p1))]) (fun v20 => mk [] []) (fun _ _ => rfl) (sm [] _ _ rfl rfl) (fun j19 n19 v19 h => ?_) (fun v20 s h hs => ?_)
      ·unfold D6 at h
       refine As Ac rfl (A0 rfl (Ad (Ap ?_)))
       refine Bd h rfl (fun h => ?_) fun h => ?_
       ·refine Ao (Ap (AL (As Ac rfl (qm rfl (qa rfl (Ad (As Ac rfl (qf Fh rfl (ql HA rfl (qm rfl ?_))))))))))
        obtain ⟨v22, a22, b22, h⟩ := Ah h
        refine qi D4 IH a22 (Af b22) rfl (qk L9 rfl (qm rfl ?_))
        obtain ⟨v23, a23, b23, h⟩ := Ah h
        refine qi EZ MO a23 (Af b23) rfl (qk Uf rfl (CQ rfl (Ad ?_)))
        refine Bd h rfl (fun h => ?_) fun h => ?_
        ·refine As Ac rfl (qa rfl (Ad ?_))
         obtain rfl := sj h
         refine Ak (sm [] [(4, iD 1)] [] rfl rfl) (Ax ?_)
         exact ⟨⟨[_], ⟨.tmp _ _ rfl, tv⟩, rfl⟩, tv⟩
        ·refine Ao (Aj Ac rfl (AW rfl (qm rfl (Ad ?_))))
         exact sn [] h
       ·refine AV ?_
        exact sn [] h
      ·refine Ak hs (As Ac rfl (qa rfl (Ad ?_)))
       obtain rfl := sj h
       refine Ak (sm [] [(4, iD 0)] [] rfl rfl) (Ax ?_)
       exact ⟨⟨[_], ⟨.tmp _ _ rfl, tv⟩, rfl⟩, tv⟩
theorem EV (N : Nat) (p0 : Ae) (r : Int) (h : BQ N p0 = some r) : Ay Tryz.prog 48 [.e (.agg (Al p0))] [] (iD r) := by
 unfold BQ at h
 refine An (n := 81) (rs := [.tmp 2]) Tryz.func48 rfl rfl rfl (A2 rfl) (A2 rfl) rfl fun w0 S0 => ?_
 refine As Ac rfl (qb rfl (qa rfl (Ad (As Ac rfl (qf BD rfl (ql Bi rfl (AZ AG rfl (qa rfl (Ad (Ap ?_))))))))))
 refine AU h (fun v1 => mk [(1, oD (.ptr 1 0)), (3, iD ((p0.fb.length : Int))), (19, bD v1)] [(1, .box (Al p0))]) (fun j1 h => ?_) (fun v1 h => ?_)
 ·refine Aj Ac rfl (qm rfl (Gt rfl (qm rfl ?_)))
  refine E1 14 h rfl (fun h => ?_) fun h => ?_
  ·refine qn rfl (qn rfl (qn rfl (qn rfl (qp rfl (Ad ?_)))))
   exact sn [] h
  ·refine qf BG rfl (ql Gy rfl (AZ C6 rfl (Gt rfl (qp rfl (Ad ?_)))))
   exact sn [] h
 ·refine Bd h rfl (fun h => ?_) fun h => ?_
  ·refine As Ac rfl (qa rfl (Ad ?_))
   obtain rfl := sj h
   refine Ak (sm [] [(2, iD 3)] [] rfl rfl) (Ax ?_)
   exact ⟨⟨[_], ⟨.tmp _ _ rfl, tv⟩, rfl⟩, tv⟩
  ·refine Ao (Ap ?_)
   refine AU h (fun v4 => mk [(1, oD (.ptr 1 0)), (31, bD v4)] [(1, .box (Al p0))]) (fun j4 h => ?_) (fun v4 h => ?_)
   ·refine Aj Ac rfl (qf Hy rfl (ql Bi rfl (AZ AG rfl (qm rfl (CU rfl (qm rfl ?_))))))
    refine E1 25 h rfl (fun h => ?_) fun h => ?_
    ·refine qn rfl (qn rfl (qn rfl (qn rfl (qn rfl (qp rfl (Ad ?_))))))
     exact sn [] h
    ·refine qf Ji rfl (ql Bi rfl (AZ AG rfl (qm rfl (CU rfl (qp rfl (Ad ?_))))))
     exact sn [] h
   ·refine Bd h rfl (fun h => ?_) fun h => ?_
    ·refine As Ac rfl (qa rfl (Ad ?_))
     obtain rfl := sj h
     refine Ak (sm [] [(2, iD 6)] [] rfl rfl) (Ax ?_)
     exact ⟨⟨[_], ⟨.tmp _ _ rfl, tv⟩, rfl⟩, tv⟩
    ·refine Ao (Ap (As Ac rfl (qf BD rfl (ql Bi rfl (AZ AG rfl (qm rfl (Ad ?_)))))))
     refine AB (L := Cv N p0) h (fun v7 => mk [(1, oD (.ptr 1 0)), (33, pD (.sl (p0.fb.map Aw))), (34, iD ((p0.fb.length : Int))), (35, iD v7)] [(1, .box (Al p0))]) (fun v8 => mk [(1, oD (.ptr 1 0))] [(1, .box (Al p0))]) (fun _ _ => rfl) (sm [] _ _ rfl rfl) (fun j7 n7 v7 h => ?_) (fun v8 s h hs => ?_)
     ·unfold Cv at h
      refine As Ac rfl (A0 rfl (Ad (Ap ?_)))
      refine Bd h rfl (fun h => ?_) fun h => ?_
      ·refine Ao (Ap (AL (As Ac rfl (qm rfl ?_))))
       obtain ⟨v10, a10, b10, h⟩ := Ah h
       refine qi AG En a10 (Af b10) rfl (qk CP rfl (qa rfl (qa rfl (Ad ?_))))
       refine AU h (fun v11 => mk [(1, oD (.ptr 1 0)), (33, pD (.sl (p0.fb.map Aw))), (34, iD ((p0.fb.length : Int))), (35, iD v7), (65, bD v11)] [(1, .box (Al p0))]) (fun j11 h => ?_) (fun v11 h => ?_)
       ·refine Aj Ac rfl (qm rfl (A0 rfl (qm rfl ?_)))
        refine E1 42 h rfl (fun h => ?_) fun h => ?_
        ·refine qn rfl (qn rfl (qp rfl (qm rfl (qn rfl (qn rfl (qn rfl (qn rfl (qn rfl (qn rfl (qn rfl (qn rfl (qp rfl (qm rfl (qn rfl (qn rfl (qn rfl (qn rfl (qn rfl (qn rfl (qn rfl (qn rfl (qp rfl (Ad ?_)))))))))))))))))))))))
         exact sn [] h
        ·refine qm rfl (Gt rfl (qp rfl (qm rfl ?_)))
         refine E1 46 h rfl (fun h => ?_) fun h => ?_
         ·refine qn rfl (qn rfl (qn rfl (qn rfl (qn rfl (qn rfl (qn rfl (qn rfl (qp rfl (qm rfl (qn rfl (qn rfl (qn rfl (qn rfl (qn rfl (qn rfl (qn rfl (qn rfl (qp rfl (Ad ?_)))))))))))))))))))
          exact sn [] h
         ·refine qf Hy rfl (ql Bi rfl (qm rfl ?_))
          obtain ⟨v14, a14, b14, h⟩ := Ah h
          refine qi AG En a14 (Af b14) rfl (qk CP rfl (qm rfl ?_))
          obtain ⟨v15, a15, h⟩ := bind_some h
          refine AF [] (IY N v14 v10 v15 a15) YO rfl (CQ rfl (qp rfl (qm rfl ?_)))
          refine E1 56 h rfl (fun h => ?_) fun h => ?_
          ·refine qn rfl (qn rfl (qn rfl (qn rfl (qn rfl (qn rfl (qn rfl (qn rfl (qp rfl (Ad ?_)))))))))
           exact sn [] h
          ·refine qf Ji rfl (ql Bi rfl (qm rfl ?_))
           obtain ⟨v17, a17, b17, h⟩ := Ah h
           refine qi AG En a17 (Af b17) rfl (qk CP rfl (qm rfl ?_))
           obtain ⟨v18, a18, h⟩ := bind_some h
           refine AF [] (IY N v17 v10 v18 a18) YO rfl (CQ rfl (qp rfl (Ad ?_)))
           exact sn [] h
       ·refine Bd h rfl (fun h => ?_) fun h => ?_
        ·refine As Ac rfl (qa rfl (Ad ?_))
         obtain rfl := sj h
         refine Ak (sm [] [(2, iD 7)] [] rfl rfl) (Ax ?_)
         exact ⟨⟨[_], ⟨.tmp _ _ rfl, tv⟩, rfl⟩, tv⟩
        ·refine Ao (Aj Ac rfl (AW rfl (qm rfl (Ad ?_))))
         exact sn [] h
      ·refine AV ?_
       exact sn [] h
     ·refine Ak hs (Ap (As Ac rfl (qf BG rfl (ql Gy rfl (AZ C6 rfl (qm rfl (Ad ?_)))))))
      refine AB (L := Ch N p0) h (fun v20 => mk [(1, oD (.ptr 1 0)), (68, pD (.sl (p0.fc.map AO))), (69, iD ((p0.fc.length : Int))), (70, iD v20)] [(1, .box (Al p0))]) (fun v21 => mk [] []) (fun _ _ => rfl) (sm [] _ _ rfl rfl) (fun j20 n20 v20 h => ?_) (fun v21 s h hs => ?_)
      ·unfold Ch at h
       refine As Ac rfl (A0 rfl (Ad (Ap ?_)))
       refine Bd h rfl (fun h => ?_) fun h => ?_
       ·refine Ao (Ap (AL (As Ac rfl ?_)))
        obtain ⟨v23, a23, b23, h⟩ := Ah h
        refine qi C6 Dq a23 (Af b23) rfl (qK HQ Dq rfl (qz JO rfl (qs Dq rfl (Ad (As Ac rfl (qL D0 CX rfl (qL HQ Dq rfl ?_)))))))
        obtain ⟨v24, a24, h⟩ := bind_some h
        refine AF [] (QY N p0 v23 v24 a24) dx rfl (qa rfl (Ad (As Ac rfl (qm rfl (CU rfl (Ad ?_))))))
        refine Bd h rfl (fun h => ?_) fun h => ?_
        ·refine As Ac rfl (qm rfl (qa rfl (Ad ?_)))
         obtain rfl := sj h
         refine Ak (sm [] [(2, iD v24)] [] rfl rfl) (Ax ?_)
         exact ⟨⟨[_], ⟨.tmp _ _ rfl, tv⟩, rfl⟩, tv⟩
        ·refine Ao (Aj Ac rfl (AW rfl (qm rfl (Ad ?_))))
         exact sn [] h
       ·refine AV ?_
        exact sn [] h
      ·refine Ak hs (As Ac rfl (qa rfl (Ad ?_)))
       obtain rfl := sj h
       refine Ak (sm [] [(2, iD 0)] [] rfl rfl) (Ax ?_)
       exact ⟨⟨[_], ⟨.tmp _ _ rfl, tv⟩, rfl⟩, tv⟩
theorem IX (N : Nat) (p0 : Ae) (r : (List Aa)) (h : EK N p0 = some r) : Ay Tryz.prog 41 [.e (.agg (Al p0))] [(3, r.map Ab)] (oD (.own 0)) := by
 unfold EK at h
 refine An (n := 46) (rs := [.tmp 2]) Tryz.func41 rfl rfl rfl (A2 rfl) (A2 rfl) rfl fun w0 S0 => ?_
 refine As Ac rfl (qb rfl (qa rfl (Ad (As Ac rfl (qa rfl (Ad (Ap (As Ac rfl (qf BG rfl (ql Gy rfl (AZ C6 rfl (qm rfl (Ad ?_)))))))))))))
 refine AB (L := CI N p0) h (fun v1 => mk [(3, oD (.own 2001)), (11, pD (.sl (p0.fc.map AO))), (12, iD ((p0.fc.length : Int))), (13, iD v1.2)] [(2001, .vec 3 (v1.1.map Ab))]) (fun v2 => mk [(3, oD (.own 2002))] [(2002, .vec 3 (v2.map Ab))]) (fun _ _ => rfl) ((Bl 3 2008 3 rfl rfl rfl).trans (sm [(2001, 2008)] _ _ rfl rfl)) (fun j1 n1 v1 h => ?_) (fun v2 s h hs => ?_)
 ·unfold CI at h
  refine As Ac rfl (A0 rfl (Ad (Ap ?_)))
  refine Bd h rfl (fun h => ?_) fun h => ?_
  ·refine Ao (Ap (AL (As Ac rfl (qm rfl ?_))))
   obtain ⟨v4, a4, b4, h⟩ := Ah h
   refine qi C6 Dq a4 (Af b4) rfl (qK HQ Dq rfl (qz JO rfl (qa rfl (qs Dq rfl (Ad (As Ac rfl (qf Fj rfl (ql HA rfl (AZ D4 rfl (qm rfl (Ad ?_)))))))))))
   refine AB (L := De N v1 v4) h (fun v5 => mk [(3, oD (.own 2003)), (4, iD v1.2), (11, pD (.sl (p0.fc.map AO))), (12, iD ((p0.fc.length : Int))), (13, iD v1.2), (19, pD (.sl (v4.fj.map (FP eB)))), (20, iD ((v4.fj.length : Int))), (21, iD v5.2)] [(2003, .vec 3 (v5.1.map Ab))]) (fun v6 => mk [(3, oD (.own 2004)), (11, pD (.sl (p0.fc.map AO))), (12, iD ((p0.fc.length : Int))), (13, iD v1.2)] [(2004, .vec 3 (v6.map Ab))]) (fun _ _ => rfl) (sm [(2003, 2001)] _ _ rfl rfl) (fun j5 n5 v5 h => ?_) (fun v6 s h hs => ?_)
   ·unfold De at h
    refine As Ac rfl (A0 rfl (Ad (Ap ?_)))
    refine Bd h rfl (fun h => ?_) fun h => ?_
    ·refine Ao (Ap (AL (As Ac rfl (qm rfl ?_))))
     obtain ⟨v8, a8, b8, h⟩ := Ah h
     refine qi D4 IH a8 (Af b8) rfl (qk L9 rfl (qa rfl (qa rfl (Ad (As Ac rfl (qm rfl (AZ EZ rfl (qm rfl (Ad ?_)))))))))
     refine AB (L := DT N v1 v5 v8) h (fun v9 => mk [(3, oD (.own 2005)), (4, iD v1.2), (6, iD v5.2), (11, pD (.sl (p0.fc.map AO))), (12, iD ((p0.fc.length : Int))), (13, iD v1.2), (19, pD (.sl (v4.fj.map (FP eB)))), (20, iD ((v4.fj.length : Int))), (21, iD v5.2), (26, pD (.sl (v8.map eB))), (27, iD ((v8.length : Int))), (28, iD v9.2)] [(2005, .vec 3 (v9.1.map Ab))]) (fun v10 => mk [(3, oD (.own 2006)), (4, iD v1.2), (11, pD (.sl (p0.fc.map AO))), (12, iD ((p0.fc.length : Int))), (13, iD v1.2), (19, pD (.sl (v4.fj.map (FP eB)))), (20, iD ((v4.fj.length : Int))), (21, iD v5.2)] [(2006, .vec 3 (v10.map Ab))]) (fun _ _ => rfl) (sm [(2005, 2003)] _ _ rfl rfl) (fun j9 n9 v9 h => ?_) (fun v10 s h hs => ?_)
     ·unfold DT at h
      refine As Ac rfl (A0 rfl (Ad (Ap ?_)))
      refine Bd h rfl (fun h => ?_) fun h => ?_
      ·refine Ao ?_
       refine AU h (fun v12 => mk [(3, oD (.own 2007)), (4, iD v1.2), (6, iD v5.2), (11, pD (.sl (p0.fc.map AO))), (12, iD ((p0.fc.length : Int))), (13, iD v1.2), (19, pD (.sl (v4.fj.map (FP eB)))), (20, iD ((v4.fj.length : Int))), (21, iD v5.2), (26, pD (.sl (v8.map eB))), (27, iD ((v8.length : Int))), (28, iD v9.2)] [(2007, .vec 3 (v12.map Ab))]) (fun j12 h => ?_) (fun v12 h => ?_)
       ·refine AL (As Ac rfl (qm rfl ?_))
        obtain ⟨v13, a13, b13, h⟩ := Ah h
        refine qi EZ MO a13 (Af b13) rfl (qk Uf rfl (qa rfl (qa rfl (Ad (As Ac rfl (qm rfl (CQ rfl (Ad ?_))))))))
        refine Bd h rfl (fun h => ?_) fun h => ?_
        ·refine Aj Ac rfl (qm rfl (qm rfl (qm rfl (qm rfl (Bx HV QJ rfl (E2 AT AQ HV rfl ?_))))))
         obtain ⟨c15, h⟩ := AD h
         refine ED (f := Ab) AT AT AQ OQ HV c15 rfl (qa rfl (Ad ?_))
         exact sn [(2007, 41)] h
        ·refine Ao ?_
         exact sn [(2007, 2005)] h
       ·refine Aj Ac rfl (AW rfl (qm rfl (Ad ?_)))
        exact sn [(2005, 2007)] h
      ·refine AV ?_
       exact sn [(2006, 2005)] h
     ·refine Ak hs (Aj Ac rfl (AW rfl (qm rfl (Ad ?_))))
      exact sn [(2003, 2006)] h
    ·refine AV ?_
     exact sn [(2004, 2003)] h
   ·refine Ak hs (Aj Ac rfl (AW rfl (qm rfl (Ad ?_))))
    exact sn [(2001, 2004)] h
  ·refine AV ?_
   exact sn [(2002, 2001)] h
 ·refine Ak hs (As Ac rfl (qm rfl (qa rfl (Ad ?_))))
  obtain rfl := sj h
  refine Ak (sm [(1000, 2002)] [(2, oD (.own 1000))] [(1000, .vec 3 (v2.map Ab))] rfl rfl) (Ax ?_)
  exact ⟨⟨[_], ⟨.tmp _ _ rfl, tv⟩, rfl⟩, ⟨rfl, tv⟩⟩
theorem Kx (N : Nat) (p0 : Ae) (r : (List Aa) × Int) (h : Fv N p0 = some r) : Ay Tryz.prog 21 [.e (.agg (Al p0))] [(3, r.1.map Ab)] (.tup [.one (.own 0), .one (iC r.2)]) := by
 unfold Fv at h
 refine An (n := 12) (rs := [.tmp 2, .tmp 3]) Tryz.func21 rfl rfl rfl (A2 rfl) (A2 rfl) rfl fun w0 S0 => ?_
 refine As Ac rfl (qb rfl (qa rfl (qa rfl (Ad (Ap (As Ac rfl (qL D0 CX rfl ?_)))))))
 obtain ⟨v1, a1, h⟩ := bind_some h
 refine AF [] (EV N p0 v1 a1) V6 rfl (qa rfl (Ad (As Ac rfl (qm rfl (CU rfl (Ad ?_))))))
 refine Bd h rfl (fun h => ?_) fun h => ?_
 ·refine As Ac rfl (qm rfl (qa rfl (qa rfl (Ad ?_))))
  obtain rfl := sj h
  refine Ak ((Bl 2 2001 3 rfl rfl rfl).trans (sm [(1000, 2001)] [(2, oD (.own 1000)), (3, iD v1)] [(1000, .vec 3 ((([] : List Aa)).map Ab))] rfl rfl)) (Ax ?_)
  exact ⟨⟨[_, _], ⟨.tmp _ _ rfl, ⟨.tmp _ _ rfl, tv⟩⟩, rfl⟩, ⟨rfl, tv⟩⟩
 ·refine Ao (As Ac rfl (qL D0 CX rfl ?_))
  obtain ⟨v3, a3, h⟩ := bind_some h
  refine AF [2002] (IX N p0 v3 a3) au rfl (qa rfl (qa rfl (Ad ?_)))
  obtain rfl := sj h
  refine Ak (sm [(1000, 2002)] [(2, oD (.own 1000)), (3, iD 0)] [(1000, .vec 3 (v3.map Ab))] rfl rfl) (Ax ?_)
  exact ⟨⟨[_, _], ⟨.tmp _ _ rfl, ⟨.tmp _ _ rfl, tv⟩⟩, rfl⟩, ⟨rfl, tv⟩⟩
open IntKind renaming wrap → wI
theorem Ok (N : Nat) (rc : (List Aa) → Int → Option ((List (List Aa)))) (hrc : ∀ (p0 : List Aa) (p1 : Int) (r : (List (List Aa))), rc p0 p1 = some r → Ay Tryz.prog 51 [pD (.sl (p0.map Ab)), iD p1] [(1, r.map (FP Ab))] (oD (.own 0))) (p0 : List Aa) (p1 : Int) (r : (List (List Aa))) (h : Ht N rc p0 p1 = some r) : Ay Tryz.prog 51 [pD (.sl (p0.map Ab)), iD p1] [(1, r.map (FP Ab))] (oD (.own 0)) := by
 unfold Ht at h
 refine An (n := 42) (rs := [.tmp 4]) Tryz.func51 rfl rfl rfl (A2 rfl) (A2 rfl) rfl fun w0 S0 => ?_
 refine As Ac rfl (qa rfl (Ad (Ap (As Ac rfl (qm rfl (B5 rfl (Ad ?_)))))))
 refine Bd h rfl (fun h => ?_) fun h => ?_
 ·refine As Ac rfl (E2 Kq Tm Xc rfl (qa rfl (Ad ?_)))
  obtain rfl := sj h
  refine Ak (sm [(1000, 12)] [(4, oD (.own 1000))] [(1000, .vec 1 ((([([] : List Aa)] : List (List Aa))).map (FP Ab)))] rfl rfl) (Ax ?_)
  exact ⟨⟨[_], ⟨.tmp _ _ rfl, tv⟩, rfl⟩, ⟨rfl, tv⟩⟩
 ·refine Ao (As Ac rfl (qa rfl (Ad (Ap (As Ac rfl (qm rfl (AZ AT rfl (qm rfl (Ad ?_)))))))))
  refine AB (L := Ec N p0 p1 rc) h (fun v2 => mk [(0, pD (.sl (p0.map Ab))), (1, iD p1), (5, oD (.own 2001)), (13, pD (.sl (p0.map Ab))), (14, iD ((p0.length : Int))), (15, iD v2.2)] [(2001, .vec 1 (v2.1.map (FP Ab)))]) (fun v3 => mk [(5, oD (.own 2002))] [(2002, .vec 1 (v3.map (FP Ab)))]) (fun _ _ => rfl) ((Bl 5 2007 1 rfl rfl rfl).trans (sm [(2001, 2007)] _ _ rfl rfl)) (fun j2 n2 v2 h => ?_) (fun v3 s h hs => ?_)
  ·unfold Ec at h
   refine As Ac rfl (A0 rfl (Ad (Ap ?_)))
   refine Bd h rfl (fun h => ?_) fun h => ?_
   ·refine Ao (Ap (AL (As Ac rfl (qm rfl ?_))))
    obtain ⟨v5, a5, b5, h⟩ := Ah h
    refine qi AT AQ a5 (Af b5) rfl (qK Du AQ rfl (qz HV rfl (qa rfl (qs AQ rfl (Ad (As Ac rfl (qm rfl (qm rfl (AW rfl ?_)))))))))
    obtain ⟨c6, h⟩ := AD h
    refine Y3 (.p rfl) rfl AT AQ (Ps (f := Ab) (n := 3) (fun _ => rfl) _) (.some _ _ _ _ c6.1) (.none _) ⟨rfl, tv⟩ tv (by have := c6.2.1; (try simp only [List.length_map]); omega) (by have := c6.2.2; (try simp only [List.length_map]); omega) (W5 Ab p0 _ _ (p0.length - ((wI .i64 (v2.2 + 1))).toNat) (by rw [List.length_map])) ?_
    refine qm rfl (Di rfl ?_)
    obtain ⟨v7, a7, h⟩ := bind_some h
    refine AF [2003] (hrc (((p0.drop ((wI .i64 (v2.2 + 1))).toNat).take (p0.length - ((wI .i64 (v2.2 + 1))).toNat))) ((wI .i64 (p1 - 1))) v7 a7) bV rfl (D9 Kq rfl (qm rfl (Ad ?_)))
    refine AB (L := EG N v5 v7) h (fun v8 => mk [(0, pD (.sl (p0.map Ab))), (1, iD p1), (5, oD (.own 2004)), (7, oD (.ptr 7 0)), (13, pD (.sl (p0.map Ab))), (14, iD ((p0.length : Int))), (15, iD v2.2), (26, oD (.own 2005)), (27, iD ((v7.length : Int))), (28, iD v8.2)] [(7, .box (Fw v5)), (2004, .vec 1 (v8.1.map (FP Ab))), (2005, .vec 1 (v7.map (FP Ab)))]) (fun v9 => mk [(0, pD (.sl (p0.map Ab))), (1, iD p1), (5, oD (.own 2006)), (13, pD (.sl (p0.map Ab))), (14, iD ((p0.length : Int))), (15, iD v2.2)] [(2006, .vec 1 (v9.map (FP Ab)))]) (fun _ _ => rfl) (sm [(2004, 2001), (2005, 2003)] _ _ rfl rfl) (fun j8 n8 v8 h => ?_) (fun v9 s h hs => ?_)
    ·unfold EG at h
     refine As Ac rfl (A0 rfl (Ad (Ap ?_)))
     refine Bd h rfl (fun h => ?_) fun h => ?_
     ·refine Ao (Ap (AL (As Ac rfl ?_)))
      obtain ⟨v11, a11, b11, h⟩ := Ah h
      refine qI Kq Tm a11 (Af b11) rfl (qj ai (Af b11) rfl (qa rfl (Ad (Aj Ac rfl (qm rfl (qL Du AQ rfl (E2 AT AQ HV rfl (qm rfl ?_))))))))
      obtain ⟨c12, h⟩ := AD h
      refine HM (f := Ab) AT AT AQ OQ HV (fun _ => rfl) c12 rfl (E0 (BX 36 _ _ rfl rfl) (E2 Kq Tm Xc rfl ?_))
      obtain ⟨c13, h⟩ := AD h
      refine ED (f := (FP Ab)) Kq Kq Tm Zu Xc c13 rfl (qa rfl (Ad (Aj Ac rfl (AW rfl (qm rfl (Ad ?_))))))
      exact sn [(2004, 38)] h
     ·refine AV ?_
      exact sn [(2006, 2004)] h
    ·refine Ak hs (Aj Ac rfl (AW rfl (qm rfl (Ad ?_))))
     exact sn [(2001, 2006)] h
   ·refine AV ?_
    exact sn [(2002, 2001)] h
  ·refine Ak hs (As Ac rfl (qm rfl (qa rfl (Ad ?_))))
   obtain rfl := sj h
   refine Ak (sm [(1000, 2002)] [(4, oD (.own 1000))] [(1000, .vec 1 (v3.map (FP Ab)))] rfl rfl) (Ax ?_)
   exact ⟨⟨[_], ⟨.tmp _ _ rfl, tv⟩, rfl⟩, ⟨rfl, tv⟩⟩
theorem K9 (N : Nat) : ∀ (k : Nat) (p0 : List Aa) (p1 : Int) (r : (List (List Aa))), Ew N k p0 p1 = some r → Ay Tryz.prog 51 [pD (.sl (p0.map Ab)), iD p1] [(1, r.map (FP Ab))] (oD (.own 0))
 | 0, _, _, _, h => by cases h
 | k + 1, p0, p1, r, h => Ok N (Ew N k) (K9 N k) p0 p1 r h
theorem PW (N : Nat) (p0 : List Aa) (p1 : Int) (r : (List (List Aa))) (h : Jw N p0 p1 = some r) : Ay Tryz.prog 51 [pD (.sl (p0.map Ab)), iD p1] [(1, r.map (FP Ab))] (oD (.own 0)) := K9 N N p0 p1 r h
theorem C4 (N : Nat) (p0 : List Int) (r : (List Int)) (h : A7 N p0 = some r) : Ay Tryz.prog 60 [pD (.sl (p0.map Aw))] [(1, r.map Aw)] (oD (.own 0)) := by
 unfold A7 at h
 refine An (n := 8) (rs := [.tmp 2]) Tryz.func60 rfl rfl rfl (A2 rfl) (A2 rfl) rfl fun w0 S0 => ?_
 refine As Ac rfl (qa rfl (Ad (Ap (As Ac rfl (qm rfl ?_)))))
 refine Nq (.p rfl) rfl AG ?_
 refine Ad ?_
 refine Nl rfl (fun c2 => ?_) ?_
 ·have c2 := List.map_eq_nil_iff.1 c2
  rw [c2] at h
  have h : (some (([] : List Int))) = some r := h
  refine As Ac rfl (qa rfl (Ad ?_))
  obtain rfl := sj h
  refine Ak ((Bl 2 2001 1 rfl rfl rfl).trans (sm [(1000, 2001)] [(2, oD (.own 1000))] [(1000, .vec 1 ((([] : List Int)).map Aw))] rfl rfl)) (Ax ?_)
  exact ⟨⟨[_], ⟨.tmp _ _ rfl, tv⟩, rfl⟩, ⟨rfl, tv⟩⟩
 ·refine Ao (As Ac rfl (E2 AG En Lb rfl (qm rfl ?_)))
  obtain ⟨c1, h⟩ := AD h
  refine HM (f := Aw) AG AG En L7 Lb (fun _ => rfl) c1 rfl (qa rfl (Ad ?_))
  obtain rfl := sj h
  refine Ak (sm [(1000, 7)] [(2, oD (.own 1000))] [(1000, .vec 1 (((([] : List Int)) ++ p0).map Aw))] rfl rfl) (Ax ?_)
  exact ⟨⟨[_], ⟨.tmp _ _ rfl, tv⟩, rfl⟩, ⟨rfl, tv⟩⟩
theorem Ib (N : Nat) (p0 : List (List Bool)) (r : (List (List Bool))) (h : DA N p0 = some r) : Ay Tryz.prog 138 [pD (.sl (p0.map (FP eB)))] [(1, r.map (FP eB))] (oD (.own 0)) := by
 unfold DA at h
 refine An (n := 8) (rs := [.tmp 2]) Tryz.func138 rfl rfl rfl (A2 rfl) (A2 rfl) rfl fun w0 S0 => ?_
 refine As Ac rfl (qa rfl (Ad (Ap (As Ac rfl (qm rfl ?_)))))
 refine Nq (.p rfl) rfl D4 ?_
 refine Ad ?_
 refine Nl rfl (fun c2 => ?_) ?_
 ·have c2 := List.map_eq_nil_iff.1 c2
  rw [c2] at h
  have h : (some (([] : List (List Bool)))) = some r := h
  refine As Ac rfl (qa rfl (Ad ?_))
  obtain rfl := sj h
  refine Ak ((Bl 2 2001 1 rfl rfl rfl).trans (sm [(1000, 2001)] [(2, oD (.own 1000))] [(1000, .vec 1 ((([] : List (List Bool))).map (FP eB)))] rfl rfl)) (Ax ?_)
  exact ⟨⟨[_], ⟨.tmp _ _ rfl, tv⟩, rfl⟩, ⟨rfl, tv⟩⟩
 ·refine Ao (As Ac rfl (E2 D4 IH R6 rfl (qm rfl ?_)))
  obtain ⟨c1, h⟩ := AD h
  refine HM (f := (FP eB)) D4 D4 IH VN R6 (fun _ => rfl) c1 rfl (qa rfl (Ad ?_))
  obtain rfl := sj h
  refine Ak (sm [(1000, 7)] [(2, oD (.own 1000))] [(1000, .vec 1 (((([] : List (List Bool))) ++ p0).map (FP eB)))] rfl rfl) (Ax ?_)
  exact ⟨⟨[_], ⟨.tmp _ _ rfl, tv⟩, rfl⟩, ⟨rfl, tv⟩⟩
theorem HH (N : Nat) (p0 : List Bool) (r : (List Bool)) (h : Db N p0 = some r) : Ay Tryz.prog 139 [pD (.sl (p0.map eB))] [(1, r.map eB)] (oD (.own 0)) := by
 unfold Db at h
 refine An (n := 8) (rs := [.tmp 2]) Tryz.func139 rfl rfl rfl (A2 rfl) (A2 rfl) rfl fun w0 S0 => ?_
 refine As Ac rfl (qa rfl (Ad (Ap (As Ac rfl (qm rfl ?_)))))
 refine Nq (.p rfl) rfl EZ ?_
 refine Ad ?_
 refine Nl rfl (fun c2 => ?_) ?_
 ·have c2 := List.map_eq_nil_iff.1 c2
  rw [c2] at h
  have h : (some (([] : List Bool))) = some r := h
  refine As Ac rfl (qa rfl (Ad ?_))
  obtain rfl := sj h
  refine Ak ((Bl 2 2001 1 rfl rfl rfl).trans (sm [(1000, 2001)] [(2, oD (.own 1000))] [(1000, .vec 1 ((([] : List Bool)).map eB))] rfl rfl)) (Ax ?_)
  exact ⟨⟨[_], ⟨.tmp _ _ rfl, tv⟩, rfl⟩, ⟨rfl, tv⟩⟩
 ·refine Ao (As Ac rfl (E2 EZ MO VF rfl (qm rfl ?_)))
  obtain ⟨c1, h⟩ := AD h
  refine HM (f := eB) EZ EZ MO Wx VF (fun _ => rfl) c1 rfl (qa rfl (Ad ?_))
  obtain rfl := sj h
  refine Ak (sm [(1000, 7)] [(2, oD (.own 1000))] [(1000, .vec 1 (((([] : List Bool)) ++ p0).map eB))] rfl rfl) (Ax ?_)
  exact ⟨⟨[_], ⟨.tmp _ _ rfl, tv⟩, rfl⟩, ⟨rfl, tv⟩⟩
theorem OA (N : Nat) (p0 : Ar) (r : Ar) (h : GA N p0 = some r) : BV Tryz.prog 109 [.e (.agg (Bt p0))] [] [.dvec 1 [.x 1 []] (r.fj.map (FP eB)), .dvec 1 [.x 1 []] (r.fm.map (FP eB))] (.e (.agg [iC r.ff, iC r.fg, iC r.fk, .pure (.val (.bool r.fp)), .own 0, .own 1])) := by
 unfold GA at h
 refine Bk (n := 48) (rs := [.cell 2 76]) Tryz.func109 rfl rfl rfl (A2 rfl) (A2 rfl) rfl rfl (A2 rfl) rfl (A2 rfl) fun w0 S0 GL => ?_
 refine Ak (sm [] [(0, .e (.agg (Bt p0)))] [] rfl rfl) (As Ac rfl (qb rfl (qz JO rfl (Ad (As Ac rfl (qf Fj rfl (ql HA rfl ?_)))))))
 obtain ⟨v1, a1, h⟩ := bind_some h
 refine AF [2001] (Ib N p0.fj v1 a1) Zr rfl (qf Fh rfl (ql HA rfl ?_))
 obtain ⟨v2, a2, h⟩ := bind_some h
 refine AF [2002] (Ib N p0.fm v2 a2) Zr rfl (qf Fj rfl (qs T9 rfl (qf Fh rfl (qs T9 rfl (AJ (by kernel_rfl) (Ap (As Ac rfl (qf Fj rfl (ql HA rfl (D9 D4 rfl (qm rfl (Ad (Ak (TF 2001 1 [.x 1 []] _ rfl) ?_)))))))))))))
 refine AB (L := Ea N v1) h (fun v3 => mk [(1, oD (.ptr 1 0)), (2, oD (.ptr 2 0)), (15, iD ((v1.length : Int))), (16, iD v3.2)] [(1, .box [iC p0.ff, iC p0.fg, iC p0.fk, .pure (.val (.bool p0.fp)), .own 2003, .own 2004]), (2, .box [iC 0, iC 0, iC 0, .pure (.val (.bool false)), .pure (.nil0), .pure (.nil0)]), (2003, .pvec ((v3.2).toNat) 1 [.x 1 []] (v3.1.map (FP eB))), (2004, .vec 1 (v2.map (FP eB)))]) (fun v4 => mk [(1, oD (.ptr 1 0)), (2, oD (.ptr 2 0))] [(1, .box [iC p0.ff, iC p0.fg, iC p0.fk, .pure (.val (.bool p0.fp)), .own 2005, .own 2006]), (2, .box [iC 0, iC 0, iC 0, .pure (.val (.bool false)), .pure (.nil0), .pure (.nil0)]), (2005, .dvec 1 [.x 1 []] (v4.map (FP eB))), (2006, .vec 1 (v2.map (FP eB)))]) (fun _ _ => rfl) (sm [(2003, 2001), (2004, 2002)] _ _ rfl rfl) (fun j3 n3 v3 h => ?_) (fun v4 s h hs => ?_)
 ·unfold Ea at h
  refine As Ac rfl (A0 rfl (Ad (Ap ?_)))
  refine Bd h rfl (fun h => ?_) fun h => ?_
  ·refine Ao (Ap (AL (As Ac rfl (qm rfl (qa rfl (Ad (Aj Ac rfl (qf Fj rfl (ql HA rfl (qm rfl (qf Fj rfl (ql HA rfl (qm rfl ?_)))))))))))))
   obtain ⟨v6, a6, b6, h⟩ := Ah h
   refine Im (.p rfl) rfl rfl rfl (Pf (FP eB) v3.1 _ _ _) D4 IH a6 (AC b6) ?_
   refine T6 (.p rfl) rfl L9 rfl (Af b6) rfl (Nat.le_refl _) ?_
   obtain ⟨v7, a7, h⟩ := bind_some h
   refine AF [2007] (HH N v6 v7 a7) ZV rfl ?_
   obtain ⟨v8, a8, b8, h⟩ := Ah h
   refine Im (.p rfl) rfl rfl rfl (Pf (FP eB) v3.1 _ _ _) D4 IH a8 (AC b8) ?_
   refine Re rfl rfl rfl rfl (rows2 := v7.map eB) (cols2 := []) rfl rfl (Af b8) rfl IH rfl rfl (A6 (FP eB) v3.1 _ v7) ?_
   refine AJ (by kernel_rfl) (Aj Ac rfl (AW rfl (qm rfl (Ad ?_))))
   obtain ⟨c9, h⟩ := AD h
   exact TL _ h ((Us 2003 rfl c9).trans (sm [] _ _ rfl rfl))
  ·refine AV ?_
   obtain ⟨c10, h⟩ := AD h
   exact TL _ h ((TN 2003 rfl (by rw [List.length_map]; exact c10)).trans (sm [(2005, 2003), (2006, 2004)] _ _ rfl rfl))
 ·refine Ak hs (Ap (As Ac rfl (qf Fh rfl (ql HA rfl (D9 D4 rfl (qm rfl (Ad (Ak (TF 2006 1 [.x 1 []] _ rfl) ?_))))))))
  refine AB (L := Cd N v2) h (fun v11 => mk [(1, oD (.ptr 1 0)), (2, oD (.ptr 2 0)), (32, iD ((v2.length : Int))), (33, iD v11.2)] [(1, .box [iC p0.ff, iC p0.fg, iC p0.fk, .pure (.val (.bool p0.fp)), .own 2008, .own 2009]), (2, .box [iC 0, iC 0, iC 0, .pure (.val (.bool false)), .pure (.nil0), .pure (.nil0)]), (2008, .dvec 1 [.x 1 []] (v4.map (FP eB))), (2009, .pvec ((v11.2).toNat) 1 [.x 1 []] (v11.1.map (FP eB)))]) (fun v12 => mk [(1, oD (.ptr 1 0)), (2, oD (.ptr 2 0))] [(1, .box [iC p0.ff, iC p0.fg, iC p0.fk, .pure (.val (.bool p0.fp)), .own 2010, .own 2011]), (2, .box [iC 0, iC 0, iC 0, .pure (.val (.bool false)), .pure (.nil0), .pure (.nil0)]), (2010, .dvec 1 [.x 1 []] (v4.map (FP eB))), (2011, .dvec 1 [.x 1 []] (v12.map (FP eB)))]) (fun _ _ => rfl) (sm [(2008, 2005), (2009, 2006)] _ _ rfl rfl) (fun j11 n11 v11 h => ?_) (fun v12 s h hs => ?_)
  ·unfold Cd at h
   refine As Ac rfl (A0 rfl (Ad (Ap ?_)))
   refine Bd h rfl (fun h => ?_) fun h => ?_
   ·refine Ao (Ap (AL (As Ac rfl (qm rfl (qa rfl (Ad (Aj Ac rfl (qf Fh rfl (ql HA rfl (qm rfl (qf Fh rfl (ql HA rfl (qm rfl ?_)))))))))))))
    obtain ⟨v14, a14, b14, h⟩ := Ah h
    refine Im (.p rfl) rfl rfl rfl (Pf (FP eB) v11.1 _ _ _) D4 IH a14 (AC b14) ?_
    refine T6 (.p rfl) rfl L9 rfl (Af b14) rfl (Nat.le_refl _) ?_
    obtain ⟨v15, a15, h⟩ := bind_some h
    refine AF [2012] (HH N v14 v15 a15) ZV rfl ?_
    obtain ⟨v16, a16, b16, h⟩ := Ah h
    refine Im (.p rfl) rfl rfl rfl (Pf (FP eB) v11.1 _ _ _) D4 IH a16 (AC b16) ?_
    refine Re rfl rfl rfl rfl (rows2 := v15.map eB) (cols2 := []) rfl rfl (Af b16) rfl IH rfl rfl (A6 (FP eB) v11.1 _ v15) ?_
    refine AJ (by kernel_rfl) (Aj Ac rfl (AW rfl (qm rfl (Ad ?_))))
    obtain ⟨c17, h⟩ := AD h
    exact TL _ h ((Us 2009 rfl c17).trans (sm [] _ _ rfl rfl))
   ·refine AV ?_
    obtain ⟨c18, h⟩ := AD h
    exact TL _ h ((TN 2009 rfl (by rw [List.length_map]; exact c18)).trans (sm [(2010, 2008), (2011, 2009)] _ _ rfl rfl))
  ·refine Ak hs (As Ac rfl (qL HQ Dq rfl (qs Dq rfl (Ad ?_))))
   obtain rfl := sj h
   refine Ak (sm [(1000, 2010), (1001, 2011)] [(2, oD (.ptr 2 0))] [(2, .box [iC p0.ff, iC p0.fg, iC p0.fk, .pure (.val (.bool p0.fp)), .own 1000, .own 1001]), (1000, .dvec 1 [.x 1 []] (v4.map (FP eB))), (1001, .dvec 1 [.x 1 []] (v12.map (FP eB)))] rfl rfl) (Ax ?_)
   exact ⟨⟨[_], ⟨.cellN _ _ _ _ _ _ _ rfl rfl HQ Dq rfl rfl (Kj rfl), tv⟩, rfl⟩, tv, ⟨rfl, rfl, tv⟩⟩
theorem N4 (N : Nat) (p0 : Ae) (p1 : List Int) (p2 : List Int) (r : Ae × Int) (h : Gp N p0 p1 p2 = some r) : BV Tryz.prog 75 [.e (.agg (Al p0)), pD (.sl (p1.map Aw)), pD (.sl (p2.map Aw))] [] [.vec 1 (r.1.fb.map Aw), .vec 1 (r.1.fh.map Aw), .vec 1 (r.1.fo.map Aw), .dvec 6 [.s, .s, .s, .s, .x 1 [.x 1 []], .x 1 [.x 1 []]] (r.1.fc.map AO)] (.tup [.agg [.own 0, .own 1, .own 2, .own 3], .one (iC r.2)]) := by
 unfold Gp at h
 refine Bk (n := 49) (rs := [.cell 6 29, .tmp 7]) Tryz.func75 rfl rfl rfl (A2 rfl) (A2 rfl) rfl rfl (A2 rfl) rfl (A2 rfl) fun w0 S0 GL => ?_
 refine Ak (sm [] [(0, .e (.agg (Al p0))), (1, pD (.sl (p1.map Aw))), (2, pD (.sl (p2.map Aw)))] [] rfl rfl) (As Ac rfl (qb rfl (qz LM rfl (qa rfl (Ad (Ap (As Ac rfl (qL D0 CX rfl ?_))))))))
 obtain ⟨v1, a1, h⟩ := bind_some h
 refine AF [] (EV N p0 v1 a1) V6 rfl (qa rfl (Ad (As Ac rfl (qm rfl (CU rfl (Ad ?_))))))
 refine Bd h rfl (fun h => ?_) fun h => ?_
 ·refine As Ac rfl (Bx LM V7 rfl (qm rfl (qs CX rfl (qa rfl (Ad ?_)))))
  obtain rfl := sj h
  refine Ak ((AA 6 0 2001 1 _ rfl rfl rfl rfl).trans ((AA 6 1 2002 1 _ rfl rfl rfl rfl).trans ((AA 6 2 2003 1 _ rfl rfl rfl rfl).trans ((AA 6 3 2004 6 _ rfl rfl rfl rfl).trans ((ID 2004 6 [.s, .s, .s, .s, .x 1 [.x 1 []], .x 1 [.x 1 []]] [] [] rfl rfl).trans (sm [(1000, 2001), (1001, 2002), (1002, 2003), (1003, 2004)] [(6, oD (.ptr 6 0)), (7, iD v1)] [(6, .box [.own 1000, .own 1001, .own 1002, .own 1003]), (1000, .vec 1 ((([] : List Int)).map Aw)), (1001, .vec 1 ((([] : List Int)).map Aw)), (1002, .vec 1 ((([] : List Int)).map Aw)), (1003, .dvec 6 [.s, .s, .s, .s, .x 1 [.x 1 []], .x 1 [.x 1 []]] ((([] : List Ar)).map AO))] rfl rfl)))))) (Ax ?_)
  exact ⟨⟨[_, _], ⟨.cellN _ _ _ _ _ _ _ rfl rfl D0 CX rfl rfl (Kj rfl), ⟨.tmp _ _ rfl, tv⟩⟩, rfl⟩, tv, ⟨rfl, rfl, rfl, rfl, tv⟩⟩
 ·refine Ao (As Ac rfl (qf BD rfl (ql Bi rfl ?_)))
  obtain ⟨v3, a3, h⟩ := bind_some h
  refine AF [2005] (C4 N p0.fb v3 a3) Tk rfl (qm rfl ?_)
  obtain ⟨v4, a4, h⟩ := bind_some h
  refine AF [2006] (C4 N p1 v4 a4) Tk rfl (qm rfl ?_)
  obtain ⟨v5, a5, h⟩ := bind_some h
  refine AF [2007] (C4 N p2 v5 a5) Tk rfl (Bx LM V7 rfl (qz LM rfl (qs CX rfl (Ad (Ap (As Ac rfl (qf BG rfl (ql Gy rfl (AZ C6 rfl (qm rfl (Ad ?_)))))))))))
  refine AB (L := DU N p0) h (fun v6 => mk [(6, oD (.ptr 6 0)), (9, oD (.ptr 9 0)), (28, pD (.sl (p0.fc.map AO))), (29, iD ((p0.fc.length : Int))), (30, iD v6.2)] [(6, .box [.pure (.nil0), .pure (.nil0), .pure (.nil0), .pure (.nil0)]), (9, .box [.own 2008, .own 2009, .own 2010, .own 2011]), (2008, .vec 1 (v3.map Aw)), (2009, .vec 1 (v4.map Aw)), (2010, .vec 1 (v5.map Aw)), (2011, .dvec 6 [.s, .s, .s, .s, .x 1 [.x 1 []], .x 1 [.x 1 []]] (v6.1.map AO))]) (fun v7 => mk [(6, oD (.ptr 6 0)), (9, oD (.ptr 9 0))] [(6, .box [.pure (.nil0), .pure (.nil0), .pure (.nil0), .pure (.nil0)]), (9, .box [.own 2012, .own 2013, .own 2014, .own 2015]), (2012, .vec 1 (v3.map Aw)), (2013, .vec 1 (v4.map Aw)), (2014, .vec 1 (v5.map Aw)), (2015, .dvec 6 [.s, .s, .s, .s, .x 1 [.x 1 []], .x 1 [.x 1 []]] (v7.map AO))]) (fun _ _ => rfl) ((AA 9 3 2018 6 _ rfl rfl rfl rfl).trans ((ID 2018 6 [.s, .s, .s, .s, .x 1 [.x 1 []], .x 1 [.x 1 []]] [] [] rfl rfl).trans (sm [(2008, 2005), (2009, 2006), (2010, 2007), (2011, 2018)] _ _ rfl rfl))) (fun j6 n6 v6 h => ?_) (fun v7 s h hs => ?_)
  ·unfold DU at h
   refine As Ac rfl (A0 rfl (Ad (Ap ?_)))
   refine Bd h rfl (fun h => ?_) fun h => ?_
   ·refine Ao (Ap (AL (As Ac rfl ?_)))
    obtain ⟨v9, a9, b9, h⟩ := Ah h
    refine qi C6 Dq a9 (Af b9) rfl (qK HQ Dq rfl (qz JO rfl (qs Dq rfl (Ad (Aj Ac rfl (qf BG rfl (ql Gy rfl (qL HQ Dq rfl ?_))))))))
    obtain ⟨v10, a10, h⟩ := bind_some h
    refine DO (ds0 := [_]) [] [2016, 2017] [] (OA N v9 v10 a10) (.p rfl) cN rfl ⟨rfl, tv⟩ rfl rfl (by decide) tv rfl (Bf rfl) ⟨rfl, rfl, tv⟩ tv rfl rfl rfl ?_
    refine Jj (x := .agg [iC v10.ff, iC v10.fg, iC v10.fk, .pure (.val (.bool v10.fp)), .own 2016, .own 2017]) (cs := [iC v10.ff, iC v10.fg, iC v10.fk, .pure (.val (.bool v10.fp)), .own 2016, .own 2017]) (ts := [.val (.int .i64 v10.ff), .val (.int .i64 v10.fg), .val (.int .i64 v10.fk), .val (.bool v10.fp), .sl (v10.fj.map (FP eB)), .sl (v10.fm.map (FP eB))]) [.s, .s, .s, .s, .x 1 [.x 1 []], .x 1 [.x 1 []]] [(2016, .dvec 1 [.x 1 []] (v10.fj.map (FP eB))), (2017, .dvec 1 [.x 1 []] (v10.fm.map (FP eB)))] (.p rfl) rfl rfl rfl rfl rfl ⟨rfl, rfl, tv⟩ ⟨rfl, rfl, rfl, rfl, rfl, rfl, tv⟩ rfl rfl rfl C6 Dq JO (A2 rfl) ?_
    obtain ⟨c11, h⟩ := AD h
    refine K1 (.p rfl) rfl rfl rfl rfl rfl (by decide) C6 C6 Dq XV (A2 rfl) JO rfl (Nr (f := AO) (g := AO) (xs := v6.1) (ys := (([v10] : List Ar))) c11) (Nt AO v6.1 (([v10] : List Ar))) rfl rfl ?_
    refine qf BG rfl (qs aB rfl (AJ (by kernel_rfl) (Aj Ac rfl (AW rfl (qm rfl (Ad ?_))))))
    exact sn [(2011, 39)] h
   ·refine AV ?_
    exact sn [(2012, 2008), (2013, 2009), (2014, 2010), (2015, 2011)] h
  ·refine Ak hs (Ap (As Ac rfl (qL D0 CX rfl ?_)))
   obtain ⟨v12, a12, h⟩ := bind_some h
   refine Fz [] [2012, 2013, 2014, 2015] (EV N ((Ae.mk v3 v4 v5 v7)) v12 a12) V6 DE rfl (qa rfl (Ad (As Ac rfl (qm rfl (CU rfl (Ad ?_))))))
   refine Bd h rfl (fun h => ?_) fun h => ?_
   ·refine As Ac rfl (Bx LM V7 rfl (qm rfl (qs CX rfl (qa rfl (Ad ?_)))))
    obtain rfl := sj h
    refine Ak ((AA 6 0 2019 1 _ rfl rfl rfl rfl).trans ((AA 6 1 2020 1 _ rfl rfl rfl rfl).trans ((AA 6 2 2021 1 _ rfl rfl rfl rfl).trans ((AA 6 3 2022 6 _ rfl rfl rfl rfl).trans ((ID 2022 6 [.s, .s, .s, .s, .x 1 [.x 1 []], .x 1 [.x 1 []]] [] [] rfl rfl).trans (sm [(1000, 2019), (1001, 2020), (1002, 2021), (1003, 2022)] [(6, oD (.ptr 6 0)), (7, iD v12)] [(6, .box [.own 1000, .own 1001, .own 1002, .own 1003]), (1000, .vec 1 ((([] : List Int)).map Aw)), (1001, .vec 1 ((([] : List Int)).map Aw)), (1002, .vec 1 ((([] : List Int)).map Aw)), (1003, .dvec 6 [.s, .s, .s, .s, .x 1 [.x 1 []], .x 1 [.x 1 []]] ((([] : List Ar)).map AO))] rfl rfl)))))) (Ax ?_)
    exact ⟨⟨[_, _], ⟨.cellN _ _ _ _ _ _ _ rfl rfl D0 CX rfl rfl (Kj rfl), ⟨.tmp _ _ rfl, tv⟩⟩, rfl⟩, tv, ⟨rfl, rfl, rfl, rfl, tv⟩⟩
   ·refine Ao (As Ac rfl (qL D0 CX rfl (qs CX rfl (qa rfl (Ad ?_)))))
    obtain rfl := sj h
    refine Ak (sm [(1000, 2012), (1001, 2013), (1002, 2014), (1003, 2015)] [(6, oD (.ptr 6 0)), (7, iD 0)] [(6, .box [.own 1000, .own 1001, .own 1002, .own 1003]), (1000, .vec 1 (v3.map Aw)), (1001, .vec 1 (v4.map Aw)), (1002, .vec 1 (v5.map Aw)), (1003, .dvec 6 [.s, .s, .s, .s, .x 1 [.x 1 []], .x 1 [.x 1 []]] (v7.map AO))] rfl rfl) (Ax ?_)
    exact ⟨⟨[_, _], ⟨.cellN _ _ _ _ _ _ _ rfl rfl D0 CX rfl rfl (Kj rfl), ⟨.tmp _ _ rfl, tv⟩⟩, rfl⟩, tv, ⟨rfl, rfl, rfl, rfl, tv⟩⟩
theorem Qb (N : Nat) (p0 : Ae) (p1 : List Aa) (r : Ae) (h : Hh N p0 p1 = some r) : Ay Tryz.prog 47 [.e (.agg (Al p0)), pD (.sl (p1.map Ab))] [(1, r.fb.map Aw), (1, r.fh.map Aw), (1, r.fo.map Aw)] (.e (.agg [.own 0, .own 1, .own 2, sC (r.fc.map AO)])) := by
 unfold Hh at h
 refine An (n := 40) (rs := [.cell 4 29]) Tryz.func47 rfl rfl rfl (A2 rfl) (A2 rfl) rfl fun w0 S0 => ?_
 refine As Ac rfl (qb rfl (qz LM rfl (Ad (As Ac rfl (qL D0 CX rfl (qf Hy rfl (ql Bi rfl (qf Ji rfl (ql Bi rfl ?_)))))))))
 obtain ⟨v1, a1, h⟩ := bind_some h
 refine DO (ds0 := [_, _, _]) [] [2001, 2002, 2003, 2004] [] (N4 N p0 p0.fh p0.fo v1 a1) (.p rfl) dZ rfl ⟨rfl, rfl, rfl, tv⟩ rfl rfl (by decide) tv rfl (Bf rfl) ⟨rfl, rfl, rfl, rfl, tv⟩ tv rfl rfl rfl ?_
 refine qm rfl (qx rfl (qx rfl (qz LM rfl (qs CX rfl (qa rfl (Ad (Ap (As Ac rfl (qm rfl (AZ AT rfl (qm rfl (Ad ?_))))))))))))
 refine AB (L := EJ N p1) h (fun v2 => mk [(4, oD (.ptr 4 0)), (5, oD (.ptr 5 0)), (18, pD (.sl (p1.map Ab))), (19, iD ((p1.length : Int))), (20, iD v2.2)] [(4, .box [.pure (.nil0), .pure (.nil0), .pure (.nil0), .pure (.nil0)]), (5, .box [.own 2005, .own 2006, .own 2007, .own 2008]), (2005, .vec 1 (v1.1.fb.map Aw)), (2006, .vec 1 (v1.1.fh.map Aw)), (2007, .vec 1 (v1.1.fo.map Aw)), (2008, .dvec 6 [.s, .s, .s, .s, .x 1 [.x 1 []], .x 1 [.x 1 []]] (v2.1.map AO))]) (fun v3 => mk [(4, oD (.ptr 4 0)), (5, oD (.ptr 5 0))] [(4, .box [.pure (.nil0), .pure (.nil0), .pure (.nil0), .pure (.nil0)]), (5, .box [.own 2009, .own 2010, .own 2011, .own 2012]), (2009, .vec 1 (v1.1.fb.map Aw)), (2010, .vec 1 (v1.1.fh.map Aw)), (2011, .vec 1 (v1.1.fo.map Aw)), (2012, .dvec 6 [.s, .s, .s, .s, .x 1 [.x 1 []], .x 1 [.x 1 []]] (v3.map AO))]) (fun _ _ => rfl) (sm [(2005, 2001), (2006, 2002), (2007, 2003), (2008, 2004)] _ _ rfl rfl) (fun j2 n2 v2 h => ?_) (fun v3 s h hs => ?_)
 ·unfold EJ at h
  refine As Ac rfl (A0 rfl (Ad (Ap ?_)))
  refine Bd h rfl (fun h => ?_) fun h => ?_
  ·refine Ao (Ap (AL (As Ac rfl ?_)))
   obtain ⟨v5, a5, b5, h⟩ := Ah h
   refine qi AT AQ a5 (Af b5) rfl (qK Du AQ rfl (qz HV rfl (qs AQ rfl (Ad (Aj Ac rfl (qf BG rfl (ql Gy rfl (qf RU rfl (ql CP rfl ?_)))))))))
   obtain ⟨v6, a6, b6, h⟩ := Ah h
   refine Im (.p rfl) rfl rfl rfl (Ky AO v2.1 _ _) C6 Dq a6 (AC b6) ?_
   refine qh Fj rfl ?_
   refine UZ (.p rfl) rfl HA rfl (Af b6) rfl rfl rfl rfl ?_
   refine qf R9 rfl (ql CP rfl ?_)
   obtain ⟨v7, a7, b7, h⟩ := Ah h
   refine Im (.p rfl) rfl rfl rfl (Ky (FP eB) v6.fj _ _) D4 IH a7 (AC b7) ?_
   refine UZ (.p rfl) rfl L9 rfl (Af b7) rfl rfl rfl rfl ?_
   refine qf Sl rfl (ql CP rfl ?_)
   obtain ⟨v8, a8, b8, h⟩ := Ah h
   refine qI EZ MO a8 (Af b8) rfl ?_
   refine A9 rfl rfl rfl rfl (Af b8) rfl MO rfl (A2 rfl) (A6 eB v7 _ true) ?_
   refine AJ (by kernel_rfl) (Ak ((Ry 30 34 (e2 := 1) (cols2 := []) (rows2 := (v7.set ((v5.fu).toNat) true).map eB) rfl rfl rfl (Af b7) rfl rfl (A6 (FP eB) v6.fj _ (v7.set ((v5.fu).toNat) true))).trans (Ry 2008 30 (e2 := 1) (cols2 := [.x 1 []]) (rows2 := (v6.fj.set ((v5.fv).toNat) (v7.set ((v5.fu).toNat) true)).map (FP eB)) rfl rfl rfl (Af b6) rfl rfl (A6 AO v2.1 _ ((Ar.mk v6.ff v6.fg v6.fk v6.fp (v6.fj.set ((v5.fv).toNat) (v7.set ((v5.fu).toNat) true)) v6.fm))))) (Aj Ac rfl (AW rfl (qm rfl (Ad ?_)))))
   exact sn [] h
  ·refine AV ?_
   exact sn [(2009, 2005), (2010, 2006), (2011, 2007), (2012, 2008)] h
 ·refine Ak hs (As Ac rfl (qL D0 CX rfl (qs CX rfl (Ad ?_))))
  obtain rfl := sj h
  refine Ak ((OI 2012 _ _ _ rfl rfl).trans (sm [(1000, 2009), (1001, 2010), (1002, 2011)] [(4, oD (.ptr 4 0))] [(4, .box [.own 1000, .own 1001, .own 1002, sC (v3.map AO)]), (1000, .vec 1 (v1.1.fb.map Aw)), (1001, .vec 1 (v1.1.fh.map Aw)), (1002, .vec 1 (v1.1.fo.map Aw))] rfl rfl)) (Ax ?_)
  exact ⟨⟨[_], ⟨.cellN _ _ _ _ _ _ _ rfl rfl D0 CX rfl rfl (Kj rfl), tv⟩, rfl⟩, ⟨rfl, rfl, rfl, tv⟩⟩
theorem NW (N : Nat) (p0 : Int) (p1 : Int) (r : Int × Int) (h : Iw N p0 p1 = some r) : Ay Tryz.prog 121 [pD (.val (.int .u32 p0)), pD (.val (.int .u32 p1))] [] (.tup [.one (.pure (.val (.int .u32 r.1))), .one (.pure (.val (.int .u32 r.2)))]) := by
 unfold Iw at h
 refine An (n := 17) (rs := [.tmp 4, .tmp 5]) Tryz.func121 rfl rfl rfl (A2 rfl) (A2 rfl) rfl fun w0 S0 => ?_
 refine As Ac rfl (qa rfl (qa rfl (Ad (As Ac rfl (qm rfl (I3 TY ZG rfl (qm rfl (I3 TY ZG rfl (J3 rfl (qa rfl (Ad (As Ac rfl (qm rfl (IK rfl (by decide) (I3 X5 T8 rfl (qm rfl (I3 X5 T8 rfl (qa rfl (qa rfl (Ad ?_))))))))))))))))))))
 obtain rfl := sj h
 refine Ak (sm [] [(4, pD (.val (.int .u32 ((wI .u32 ((FE .u64 ((wI .u64 ((wI .u64 p0) * (wI .u64 p1)))) 32))))))), (5, pD (.val (.int .u32 ((wI .u32 ((wI .u64 ((wI .u64 p0) * (wI .u64 p1)))))))))] [] rfl rfl) (Ax ?_)
 exact ⟨⟨[_, _], ⟨.tmp _ _ rfl, ⟨.tmp _ _ rfl, tv⟩⟩, rfl⟩, tv⟩
theorem Oe (N : Nat) (p0 : Int) (p1 : Int) (r : Int × Int) (h : Ip N p0 p1 = some r) : Ay Tryz.prog 122 [pD (.val (.int .u64 p0)), pD (.val (.int .u64 p1))] [] (.tup [.one (.pure (.val (.int .u64 r.1))), .one (.pure (.val (.int .u64 r.2)))]) := by
 unfold Ip at h
 refine An (n := 51) (rs := [.tmp 4, .tmp 5]) Tryz.func122 rfl rfl rfl (A2 rfl) (A2 rfl) rfl fun w0 S0 => ?_
 refine As Ac rfl (qa rfl (qa rfl (Ad (As Ac rfl (qm rfl (Nz rfl (qa rfl (Ad (As Ac rfl (qm rfl (IK rfl (by decide) (qa rfl (Ad (As Ac rfl (qm rfl (Nz rfl (qa rfl (Ad (As Ac rfl (qm rfl (IK rfl (by decide) (qa rfl (Ad (As Ac rfl (qm rfl (qm rfl (J3 rfl (qa rfl (Ad (As Ac rfl (qm rfl (qm rfl ?_))))))))))))))))))))))))))))))))
 refine J3 rfl (qm rfl (IK rfl (by decide) (AW rfl (qa rfl (Ad (As Ac rfl (qm rfl (Nz rfl (qa rfl (Ad (As Ac rfl (qm rfl (IK rfl (by decide) (qa rfl (Ad (As Ac rfl (qm rfl (qm rfl (qm rfl (J3 rfl (AW rfl (qa rfl (Ad (As Ac rfl (qm rfl (qm rfl (J3 rfl (qm rfl (AW rfl (qm rfl (IK rfl (by decide) (AW rfl (qa rfl (Ad (Ap ?_)))))))))))))))))))))))))))))))))))
 refine Aj Ac rfl (qm rfl (qm rfl (J3 rfl (qa rfl (Ad ?_)))))
 obtain rfl := sj h
 refine Ak (sm [] [(4, pD (.val (.int .u64 ((wI .u64 ((wI .u64 ((wI .u64 ((FE .u64 p0 32) * (FE .u64 p1 32))) + (FE .u64 ((wI .u64 ((wI .u64 ((FE .u64 p0 32) * (Hr .u64 p1 4294967295))) + (FE .u64 ((wI .u64 ((Hr .u64 p0 4294967295) * (Hr .u64 p1 4294967295)))) 32)))) 32))) + (FE .u64 ((wI .u64 ((Hr .u64 ((wI .u64 ((wI .u64 ((FE .u64 p0 32) * (Hr .u64 p1 4294967295))) + (FE .u64 ((wI .u64 ((Hr .u64 p0 4294967295) * (Hr .u64 p1 4294967295)))) 32)))) 4294967295) + (wI .u64 ((Hr .u64 p0 4294967295) * (FE .u64 p1 32)))))) 32))))))), (5, pD (.val (.int .u64 ((wI .u64 (p0 * p1))))))] [] rfl rfl) (Ax ?_)
 exact ⟨⟨[_, _], ⟨.tmp _ _ rfl, ⟨.tmp _ _ rfl, tv⟩⟩, rfl⟩, tv⟩
theorem Pc (N : Nat) (p0 : Int) (p1 : Int) (r : Int × Int) (h : Ja N p0 p1 = some r) : Ay Tryz.prog 86 [pD (.val (.int .u64 p0)), pD (.val (.int .u64 p1))] [] (.tup [.one (.pure (.val (.int .u64 r.1))), .one (.pure (.val (.int .u64 r.2)))]) := by
 unfold Ja at h
 refine An (n := 30) (rs := [.tmp 4, .tmp 5]) Tryz.func86 rfl rfl rfl (A2 rfl) (A2 rfl) rfl fun w0 S0 => ?_
 refine As Ac rfl (qa rfl (qa rfl (Ad (Ap ?_))))
 refine Bd h rfl (fun h => ?_) fun h => ?_
 ·refine As Ac rfl (qm rfl (I3 Um T8 rfl (qm rfl (I3 Um T8 rfl ?_))))
  obtain ⟨v2, a2, h⟩ := bind_some h
  refine AF [] (NW N ((wI .u32 p0)) ((wI .u32 p1)) v2 a2) bg rfl (qm rfl (qx rfl (qx rfl (qa rfl (qa rfl (Ad (As Ac rfl (qm rfl (I3 TY Rm rfl (qm rfl (I3 TY Rm rfl (qa rfl (qa rfl (Ad ?_))))))))))))))
  obtain rfl := sj h
  refine Ak (sm [] [(4, pD (.val (.int .u64 ((wI .u64 v2.1))))), (5, pD (.val (.int .u64 ((wI .u64 v2.2)))))] [] rfl rfl) (Ax ?_)
  exact ⟨⟨[_, _], ⟨.tmp _ _ rfl, ⟨.tmp _ _ rfl, tv⟩⟩, rfl⟩, tv⟩
 ·refine Ao (As Ac rfl (qm rfl (qm rfl ?_)))
  obtain ⟨v3, a3, h⟩ := bind_some h
  refine AF [] (Oe N p0 p1 v3 a3) bk rfl (qm rfl (qx rfl (qx rfl (qa rfl (qa rfl (Ad (As Ac rfl (qm rfl (qm rfl (qa rfl (qa rfl (Ad ?_))))))))))))
  obtain rfl := sj h
  refine Ak (sm [] [(4, pD (.val (.int .u64 v3.1))), (5, pD (.val (.int .u64 v3.2)))] [] rfl rfl) (Ax ?_)
  exact ⟨⟨[_, _], ⟨.tmp _ _ rfl, ⟨.tmp _ _ rfl, tv⟩⟩, rfl⟩, tv⟩
theorem KU (N : Nat) (p0 : List Int) (p1 : Int) (r : (List Int)) (h : Fy N p0 p1 = some r) : Ay Tryz.prog 61 [pD (.sl (p0.map Aw)), iD p1] [(1, r.map Aw)] (oD (.own 0)) := by
 unfold Fy at h
 refine An (n := 48) (rs := [.tmp 4]) Tryz.func61 rfl rfl rfl (A2 rfl) (A2 rfl) rfl fun w0 S0 => ?_
 refine As Ac rfl (qa rfl (Ad ?_))
 refine AU h (fun v1 => mk [(0, pD (.sl (p0.map Aw))), (1, iD p1)] []) (fun j1 h => ?_) (fun v1 h => ?_)
 ·refine As Ac rfl (qm rfl (A0 rfl (Ad ?_)))
  refine Bd h rfl (fun h => ?_) fun h => ?_
  ·refine Aj Ac rfl ?_
   cases h
  ·refine Ao ?_
   exact sn [] h
 ·refine As Ac rfl (qm rfl (AZ AG rfl (I3 aF Rm rfl (qm rfl (I3 aF Rm rfl ?_)))))
  obtain ⟨v3, a3, h⟩ := bind_some h
  refine AF [] (Pc N ((wI .u64 ((p0.length : Int)))) ((wI .u64 p1)) v3 a3) dR rfl (qm rfl (qx rfl (qx rfl (qa rfl (qa rfl (Ad ?_))))))
  refine AU h (fun v4 => mk [(0, pD (.sl (p0.map Aw))), (6, pD (.val (.int .u64 v3.2)))] []) (fun j4 h => ?_) (fun v4 h => ?_)
  ·refine AU h (fun v5 => mk [(0, pD (.sl (p0.map Aw))), (6, pD (.val (.int .u64 v3.2))), (26, bD v5)] []) (fun j5 h => ?_) (fun v5 h => ?_)
   ·refine Aj Ac rfl (qm rfl (Gt rfl (qm rfl ?_)))
    refine E1 23 h rfl (fun h => ?_) fun h => ?_
    ·refine qn rfl (qn rfl (qp rfl (Ad ?_)))
     exact sn [] h
    ·refine qm rfl (Gt rfl (qp rfl (Ad ?_)))
     exact sn [] h
   ·refine Bd h rfl (fun h => ?_) fun h => ?_
    ·refine Aj Ac rfl ?_
     cases h
    ·refine Ao ?_
     exact sn [] h
  ·refine As Ac rfl (qm rfl (I3 Um Yb rfl ?_))
   obtain ⟨c8, h⟩ := AD h
   refine LN (.p rfl) rfl rfl rfl AG En L7 (A2 rfl) Lb rfl rfl rfl c8.1 c8.2.1 c8.2.2 (SC Aw _ ((0 : Int))) ?_
   refine qa rfl (Ad (As Ac rfl (qm rfl (qm rfl ?_))))
   refine VA Aw (List.replicate ((wI .i64 v3.2)).toNat ((0 : Int))) p0 (.p rfl) rfl (If Aw _ _ (List.replicate ((wI .i64 v3.2)).toNat ((0 : Int)))) rfl rfl (Y6 Aw _ _ (fun _ => rfl)) tv AG En ?_
   refine qa rfl (Ad (Ap ?_))
   refine AB (L := EY N) h (fun v9 => mk [(7, oD (.own 2001)), (8, iD v9.2)] [(2001, .vec 1 (v9.1.map Aw))]) (fun v10 => mk [(7, oD (.own 2002))] [(2002, .vec 1 (v10.map Aw))]) (fun _ _ => rfl) (sm [(2001, 30)] _ _ rfl rfl) (fun j9 n9 v9 h => ?_) (fun v10 s h hs => ?_)
   ·unfold EY at h
    refine Ap (As Ac rfl (qm rfl (qm rfl (D9 AG rfl (A0 rfl (Ad ?_))))))
    refine Bd h rfl (fun h => ?_) fun h => ?_
    ·refine Ao (AL (Aj Ac rfl (qm rfl (qm rfl (qm rfl ?_)))))
     obtain ⟨c12, h⟩ := AD h
     have w13 : ((v9.2).toNat) + ((v9.1.length - (v9.2).toNat)) ≤ v9.1.length := by have := c12.2.1; have := c12.2.2; omega
     refine Id Aw v9.1 (.p rfl) rfl (If Aw _ _ v9.1) rfl AG En (.some _ _ _ _ c12.1) (.none _) ⟨rfl, tv⟩ tv c12.2.1 (by rw [Nat.zero_add]; exact c12.2.2) (Nat.zero_add _) rfl ?_
     refine qm rfl (qm rfl ?_)
     obtain ⟨c14, h⟩ := AD h
     have w15 : 0 + ((v9.2).toNat) ≤ v9.1.length := by have := c14.2.1; have := c14.2.2; omega
     refine Id Aw v9.1 (.p rfl) rfl (If Aw _ _ v9.1) rfl AG En (.none _) (.some _ _ _ _ c14.1) tv ⟨rfl, tv⟩ c14.2.1 (by rw [Nat.zero_add]; exact c14.2.2) (Nat.zero_add _) rfl ?_
     refine VA Aw v9.1 (((v9.1.drop 0).take ((v9.2).toNat))) (.p rfl) rfl (JR Aw _ _ ((v9.2).toNat) ((v9.1.length - (v9.2).toNat)) v9.1 w13) rfl rfl (RM Aw _ _ 0 ((v9.2).toNat) v9.1 w15) ⟨rfl, tv⟩ AG En ?_
     refine AW rfl (qa rfl (AJ (by kernel_rfl) ?_))
     exact sn [] h
    ·refine AV ?_
     exact sn [(2002, 2001)] h
   ·refine Ak hs (As Ac rfl (qm rfl (qa rfl (Ad ?_))))
    obtain rfl := sj h
    refine Ak (sm [(1000, 2002)] [(4, oD (.own 1000))] [(1000, .vec 1 (v10.map Aw))] rfl rfl) (Ax ?_)
    exact ⟨⟨[_], ⟨.tmp _ _ rfl, tv⟩, rfl⟩, ⟨rfl, tv⟩⟩
theorem Li (N : Nat) (p0 : Ar) (r : Bool) (h : GN N p0 = some r) : Ay Tryz.prog 62 [.e (.agg (Bt p0))] [] (bD r) := by
 unfold GN at h
 refine An (n := 11) (rs := [.tmp 2]) Tryz.func62 rfl rfl rfl (A2 rfl) (A2 rfl) rfl fun w0 S0 => ?_
 refine As Ac rfl (qb rfl (qa rfl (Ad ?_)))
 refine AU h (fun v1 => mk [(2, bD v1)] []) (fun j1 h => ?_) (fun v1 h => ?_)
 ·refine Aj Ac rfl (qf Hz rfl (ql CP rfl (B5 rfl (qm rfl ?_))))
  refine E1 6 h rfl (fun h => ?_) fun h => ?_
  ·refine qn rfl (qn rfl (qn rfl (qp rfl (qa rfl (Ad ?_)))))
   exact sn [] h
  ·refine qf Hz rfl (ql CP rfl (B5 rfl (qp rfl (qa rfl (Ad ?_)))))
   exact sn [] h
 ·obtain rfl := sj h
  refine Ak (sm [] [(2, bD v1)] [] rfl rfl) (Ax ?_)
  exact ⟨⟨[_], ⟨.tmp _ _ rfl, tv⟩, rfl⟩, tv⟩
theorem Ua (N : Nat) (p0 : Ae) (r : Ag × Int) (h : IL N p0 = some r) : Ay Tryz.prog 35 [.e (.agg (Al p0))] [(1, r.1.fd.map Aw), (1, r.1.fa.map Aw), (1, r.1.fe.map EI)] (.tup [.agg [.own 0, .own 1, .own 2], .one (iC r.2)]) := by
 unfold IL at h
 refine An (n := 50) (rs := [.cell 2 64, .tmp 3]) Tryz.func35 rfl rfl rfl (A2 rfl) (A2 rfl) rfl fun w0 S0 => ?_
 refine As Ac rfl (qb rfl (qz Fx rfl (qa rfl (Ad (Ap (As Ac rfl (qL D0 CX rfl ?_)))))))
 obtain ⟨v1, a1, h⟩ := bind_some h
 refine AF [] (EV N p0 v1 a1) V6 rfl (qa rfl (Ad (As Ac rfl (qm rfl (CU rfl (Ad ?_))))))
 refine Bd h rfl (fun h => ?_) fun h => ?_
 ·refine As Ac rfl (Bx Fx JK rfl (qm rfl (qs Bc rfl (qa rfl (Ad ?_)))))
  obtain rfl := sj h
  refine Ak ((AA 2 0 2001 1 _ rfl rfl rfl rfl).trans ((AA 2 1 2002 1 _ rfl rfl rfl rfl).trans ((AA 2 2 2003 1 _ rfl rfl rfl rfl).trans (sm [(1000, 2001), (1001, 2002), (1002, 2003)] [(2, oD (.ptr 2 0)), (3, iD v1)] [(2, .box [.own 1000, .own 1001, .own 1002]), (1000, .vec 1 ((([] : List Int)).map Aw)), (1001, .vec 1 ((([] : List Int)).map Aw)), (1002, .vec 1 ((([] : List Int)).map EI))] rfl rfl)))) (Ax ?_)
  exact ⟨⟨[_, _], ⟨.cellN _ _ _ _ _ _ _ rfl rfl CF Bc rfl rfl (Kj rfl), ⟨.tmp _ _ rfl, tv⟩⟩, rfl⟩, ⟨rfl, rfl, rfl, tv⟩⟩
 ·refine Ao (As Ac rfl (qf Hy rfl (ql Bi rfl ?_)))
  obtain ⟨v3, a3, h⟩ := bind_some h
  refine AF [2004] (C4 N p0.fh v3 a3) Tk rfl (E2 AG En Lb rfl (qf Hy rfl (ql Bi rfl (AZ AG rfl ?_))))
  obtain ⟨v4, a4, h⟩ := bind_some h
  refine Fz [2005] [17] (KU N (([(-1)] : List Int)) ((p0.fh.length : Int)) v4 a4) dt (Ka (fun _ => rfl) DE) rfl (qf BG rfl (ql Gy rfl (AZ C6 rfl ?_)))
  obtain ⟨c5, h⟩ := AD h
  refine LN (.p rfl) rfl rfl rfl EO HB Uo (A2 rfl) Sk rfl rfl rfl c5.1 c5.2.1 c5.2.2 (SC EI _ ((0 : Int))) ?_
  refine Bx Fx JK rfl (qz Fx rfl (qs Bc rfl (AJ (by kernel_rfl) (Ap (As Ac rfl (qf BG rfl (ql Gy rfl (AZ C6 rfl (qm rfl (Ad ?_))))))))))
  refine AB (L := Fc N p0) h (fun v6 => mk [(1, oD (.ptr 1 0)), (2, oD (.ptr 2 0)), (5, oD (.ptr 5 0)), (28, pD (.sl (p0.fc.map AO))), (29, iD ((p0.fc.length : Int))), (30, iD v6.2)] [(1, .box (Al p0)), (2, .box [.pure (.nil0), .pure (.nil0), .pure (.nil0)]), (5, .box [.own 2006, .own 2007, .own 2008]), (2006, .vec 1 (v3.map Aw)), (2007, .vec 1 (v4.map Aw)), (2008, .vec 1 (v6.1.map EI))]) (fun v7 => mk [(2, oD (.ptr 2 0)), (5, oD (.ptr 5 0))] [(2, .box [.pure (.nil0), .pure (.nil0), .pure (.nil0)]), (5, .box [.own 2009, .own 2010, .own 2011]), (2009, .vec 1 (v3.map Aw)), (2010, .vec 1 (v4.map Aw)), (2011, .vec 1 (v7.map EI))]) (fun _ _ => rfl) (sm [(2006, 2004), (2007, 2005), (2008, 25)] _ _ rfl rfl) (fun j6 n6 v6 h => ?_) (fun v7 s h hs => ?_)
  ·unfold Fc at h
   refine As Ac rfl (A0 rfl (Ad (Ap ?_)))
   refine Bd h rfl (fun h => ?_) fun h => ?_
   ·refine Ao ?_
    refine AU h (fun v9 => mk [(1, oD (.ptr 1 0)), (2, oD (.ptr 2 0)), (5, oD (.ptr 5 0)), (28, pD (.sl (p0.fc.map AO))), (29, iD ((p0.fc.length : Int))), (30, iD v6.2)] [(1, .box (Al p0)), (2, .box [.pure (.nil0), .pure (.nil0), .pure (.nil0)]), (5, .box [.own 2012, .own 2013, .own 2014]), (2012, .vec 1 (v3.map Aw)), (2013, .vec 1 (v4.map Aw)), (2014, .vec 1 (v9.map EI))]) (fun j9 h => ?_) (fun v9 h => ?_)
    ·refine AL (As Ac rfl (qm rfl ?_))
     obtain ⟨v10, a10, b10, h⟩ := Ah h
     refine qi C6 Dq a10 (Af b10) rfl (qK HQ Dq rfl (qz JO rfl (qa rfl (qs Dq rfl (Ad (As Ac rfl (qL HQ Dq rfl ?_)))))))
     obtain ⟨v11, a11, h⟩ := bind_some h
     refine AF [] (Li N v10 v11 a11) aQ rfl (Ad ?_)
     refine Bd h rfl (fun h => ?_) fun h => ?_
     ·refine Aj Ac rfl (qf DF rfl (ql II rfl (qm rfl (qf Hy rfl (ql Bi rfl (qf Em rfl (ql CP rfl ?_)))))))
      obtain ⟨v13, a13, b13, h⟩ := Ah h
      refine qi AG En a13 (Af b13) rfl (qk CP rfl ?_)
      obtain ⟨c14, h⟩ := AD h
      refine Jr rfl c14 ?_
      obtain ⟨v15, a15, b15, h⟩ := Ah h
      refine qI EO HB a15 (Af b15) rfl ?_
      refine A9 rfl rfl rfl rfl (Af b15) rfl HB rfl (A2 rfl) (A6 EI v6.1 _ ((Dp .u8 1 v13))) ?_
      refine AJ (by kernel_rfl) ?_
      exact sn [(2012, 2006), (2013, 2007), (2014, 2008)] h
     ·refine Ao ?_
      exact sn [(2012, 2006), (2013, 2007), (2014, 2008)] h
    ·refine Aj Ac rfl (AW rfl (qm rfl (Ad ?_)))
     exact sn [(2006, 2012), (2007, 2013), (2008, 2014)] h
   ·refine AV ?_
    exact sn [(2009, 2006), (2010, 2007), (2011, 2008)] h
  ·refine Ak hs (As Ac rfl (qL CF Bc rfl (qs Bc rfl (qa rfl (Ad ?_)))))
   obtain rfl := sj h
   refine Ak (sm [(1000, 2009), (1001, 2010), (1002, 2011)] [(2, oD (.ptr 2 0)), (3, iD 0)] [(2, .box [.own 1000, .own 1001, .own 1002]), (1000, .vec 1 (v3.map Aw)), (1001, .vec 1 (v4.map Aw)), (1002, .vec 1 (v7.map EI))] rfl rfl) (Ax ?_)
   exact ⟨⟨[_, _], ⟨.cellN _ _ _ _ _ _ _ rfl rfl CF Bc rfl rfl (Kj rfl), ⟨.tmp _ _ rfl, tv⟩⟩, rfl⟩, ⟨rfl, rfl, rfl, tv⟩⟩
theorem KR (N : Nat) (p0 : Ag) (p1 : Int) (r : Int) (h : Gj N p0 p1 = some r) : Ay Tryz.prog 130 [.e (.agg (AR p0)), iD p1] [] (pD (.val (.int .u8 r))) := by
 unfold Gj at h
 refine An (n := 27) (rs := [.tmp 4]) Tryz.func130 rfl rfl rfl (A2 rfl) (A2 rfl) rfl fun w0 S0 => ?_
 refine As Ac rfl (qb rfl (qa rfl (Ad (As Ac rfl (qf DY rfl (ql Bi rfl (qm rfl ?_)))))))
 obtain ⟨v1, a1, b1, h⟩ := Ah h
 refine qi AG En a1 (Af b1) rfl (qk CP rfl ?_)
 obtain ⟨c2, h⟩ := AD h
 refine Jr rfl c2 (qa rfl (Ad ?_))
 refine AU h (fun v3 => mk [(5, pD (.val (.int .u8 v3)))] []) (fun j3 h => ?_) (fun v3 h => ?_)
 ·refine As Ac rfl (qf B8 rfl (ql Bi rfl (qm rfl ?_)))
  obtain ⟨v4, a4, b4, h⟩ := Ah h
  refine qi AG En a4 (Af b4) rfl (qk CP rfl (Ee rfl (Ad ?_)))
  refine Bd h rfl (fun h => ?_) fun h => ?_
  ·refine Aj Ac rfl (qm rfl (qf B8 rfl (ql Bi rfl (qm rfl ?_))))
   obtain ⟨v6, a6, b6, h⟩ := Ah h
   refine qi AG En a6 (Af b6) rfl (qk CP rfl ?_)
   obtain ⟨c7, h⟩ := AD h
   refine Jr rfl c7 (XL rfl (qa rfl (Ad ?_)))
   exact sn [] h
  ·refine Ao ?_
   exact sn [] h
 ·refine As Ac rfl (qm rfl (qa rfl (Ad ?_)))
  obtain rfl := sj h
  refine Ak (sm [] [(4, pD (.val (.int .u8 v3)))] [] rfl rfl) (Ax ?_)
  exact ⟨⟨[_], ⟨.tmp _ _ rfl, tv⟩, rfl⟩, tv⟩
theorem Ks (N : Nat) (p0 : Ae) (p1 : Ag) (r : Int) (h : GI N p0 p1 = some r) : Ay Tryz.prog 91 [.e (.agg (Al p0)), .e (.agg (AR p1))] [] (iD r) := by
 unfold GI at h
 refine An (n := 135) (rs := [.tmp 4]) Tryz.func91 rfl rfl rfl (A2 rfl) (A2 rfl) rfl fun w0 S0 => ?_
 refine As Ac rfl (qb rfl (qb rfl (qa rfl (Ad (Ap (As Ac rfl (qL D0 CX rfl ?_)))))))
 obtain ⟨v1, a1, h⟩ := bind_some h
 refine AF [] (EV N p0 v1 a1) V6 rfl (qa rfl (Ad (As Ac rfl (qm rfl (CU rfl (Ad ?_))))))
 refine Bd h rfl (fun h => ?_) fun h => ?_
 ·refine As Ac rfl (qm rfl (qa rfl (Ad ?_)))
  obtain rfl := sj h
  refine Ak (sm [] [(4, iD v1)] [] rfl rfl) (Ax ?_)
  exact ⟨⟨[_], ⟨.tmp _ _ rfl, tv⟩, rfl⟩, tv⟩
 ·refine Ao (Ap ?_)
  refine AU h (fun v3 => mk [(2, oD (.ptr 2 0)), (3, oD (.ptr 3 0)), (41, bD v3)] [(2, .box (Al p0)), (3, .box (AR p1))]) (fun j3 h => ?_) (fun v3 h => ?_)
  ·refine Aj Ac rfl (qf DY rfl (ql Bi rfl (AZ AG rfl (qf BD rfl (ql Bi rfl (AZ AG rfl (CU rfl (qm rfl ?_))))))))
   refine E1 24 h rfl (fun h => ?_) fun h => ?_
   ·refine qn rfl (qn rfl (qn rfl (qn rfl (qn rfl (qn rfl (qn rfl (qp rfl (qm rfl (qn rfl (qn rfl (qn rfl (qn rfl (qn rfl (qn rfl (qn rfl (qp rfl (Ad ?_)))))))))))))))))
    exact sn [] h
   ·refine qf B8 rfl (ql Bi rfl (AZ AG rfl (qf BD rfl (ql Bi rfl (AZ AG rfl (CU rfl (qp rfl (qm rfl ?_))))))))
    refine E1 33 h rfl (fun h => ?_) fun h => ?_
    ·refine qn rfl (qn rfl (qn rfl (qn rfl (qn rfl (qn rfl (qn rfl (qp rfl (Ad ?_))))))))
     exact sn [] h
    ·refine qf DF rfl (ql II rfl (AZ EO rfl (qf BG rfl (ql Gy rfl (AZ C6 rfl (CU rfl (qp rfl (Ad ?_))))))))
     exact sn [] h
  ·refine Bd h rfl (fun h => ?_) fun h => ?_
   ·refine As Ac rfl (qa rfl (Ad ?_))
    obtain rfl := sj h
    refine Ak (sm [] [(4, iD 6)] [] rfl rfl) (Ax ?_)
    exact ⟨⟨[_], ⟨.tmp _ _ rfl, tv⟩, rfl⟩, tv⟩
   ·refine Ao (Ap (As Ac rfl (qf BD rfl (ql Bi rfl (AZ AG rfl (qm rfl (Ad ?_)))))))
    refine AB (L := Ff N p0 p1) h (fun v7 => mk [(2, oD (.ptr 2 0)), (3, oD (.ptr 3 0)), (43, pD (.sl (p0.fb.map Aw))), (44, iD ((p0.fb.length : Int))), (45, iD v7)] [(2, .box (Al p0)), (3, .box (AR p1))]) (fun v8 => mk [(2, oD (.ptr 2 0)), (3, oD (.ptr 3 0))] [(2, .box (Al p0)), (3, .box (AR p1))]) (fun _ _ => rfl) (sm [] _ _ rfl rfl) (fun j7 n7 v7 h => ?_) (fun v8 s h hs => ?_)
    ·unfold Ff at h
     refine As Ac rfl (A0 rfl (Ad (Ap ?_)))
     refine Bd h rfl (fun h => ?_) fun h => ?_
     ·refine Ao (Ap (AL (As Ac rfl (qm rfl ?_))))
      obtain ⟨v10, a10, b10, h⟩ := Ah h
      refine qi AG En a10 (Af b10) rfl (qk CP rfl (qa rfl (qa rfl (Ad (Ap ?_)))))
      refine AU h (fun v11 => mk [(2, oD (.ptr 2 0)), (3, oD (.ptr 3 0)), (6, iD v7), (43, pD (.sl (p0.fb.map Aw))), (44, iD ((p0.fb.length : Int))), (45, iD v7), (81, bD v11)] [(2, .box (Al p0)), (3, .box (AR p1))]) (fun j11 h => ?_) (fun v11 h => ?_)
      ·refine Aj Ac rfl (qf DY rfl (ql Bi rfl (qm rfl ?_)))
       obtain ⟨v12, a12, b12, h⟩ := Ah h
       refine qi AG En a12 (Af b12) rfl (qk CP rfl (A0 rfl (qm rfl ?_)))
       refine E1 56 h rfl (fun h => ?_) fun h => ?_
       ·refine qn rfl (qn rfl (qn rfl (qn rfl (qn rfl (qn rfl (qn rfl (qp rfl (qm rfl (qn rfl (qn rfl (qn rfl (qn rfl (qn rfl (qn rfl (qp rfl (qm rfl (qn rfl (qn rfl (qn rfl (qn rfl (qn rfl (qn rfl (qn rfl (qp rfl (Ad ?_)))))))))))))))))))))))))
        exact sn [] h
       ·refine qf DY rfl (ql Bi rfl (qm rfl ?_))
        obtain ⟨v14, a14, b14, h⟩ := Ah h
        refine qi AG En a14 (Af b14) rfl (qk CP rfl (qm rfl (Ee rfl (qp rfl (qm rfl ?_)))))
        refine E1 65 h rfl (fun h => ?_) fun h => ?_
        ·refine qn rfl (qn rfl (qn rfl (qn rfl (qn rfl (qn rfl (qp rfl (qm rfl (qn rfl (qn rfl (qn rfl (qn rfl (qn rfl (qn rfl (qn rfl (qp rfl (Ad ?_))))))))))))))))
         exact sn [] h
        ·refine qf B8 rfl (ql Bi rfl (qm rfl ?_))
         obtain ⟨v16, a16, b16, h⟩ := Ah h
         refine qi AG En a16 (Af b16) rfl (qk CP rfl (A0 rfl (qp rfl (qm rfl ?_))))
         refine E1 73 h rfl (fun h => ?_) fun h => ?_
         ·refine qn rfl (qn rfl (qn rfl (qn rfl (qn rfl (qn rfl (qn rfl (qp rfl (Ad ?_))))))))
          exact sn [] h
         ·refine qf B8 rfl (ql Bi rfl (qm rfl ?_))
          obtain ⟨v18, a18, b18, h⟩ := Ah h
          refine qi AG En a18 (Af b18) rfl (qk CP rfl (qm rfl (Ee rfl (qp rfl (Ad ?_)))))
          exact sn [] h
      ·refine Bd h rfl (fun h => ?_) fun h => ?_
       ·refine As Ac rfl (qa rfl (Ad ?_))
        obtain rfl := sj h
        refine Ak (sm [] [(4, iD 7)] [] rfl rfl) (Ax ?_)
        exact ⟨⟨[_], ⟨.tmp _ _ rfl, tv⟩, rfl⟩, tv⟩
       ·refine Ao (As Ac rfl (qf DY rfl (ql Bi rfl (qm rfl ?_))))
        obtain ⟨v20, a20, b20, h⟩ := Ah h
        refine qi AG En a20 (Af b20) rfl (qk CP rfl (qf B8 rfl (ql Bi rfl (qm rfl ?_))))
        obtain ⟨v21, a21, b21, h⟩ := Ah h
        refine qi AG En a21 (Af b21) rfl (qk CP rfl (B5 rfl (AJ (by kernel_rfl) ?_)))
        refine Bd h rfl (fun h => ?_) fun h => ?_
        ·refine As Ac rfl (qa rfl (Ad ?_))
         obtain rfl := sj h
         refine Ak (sm [] [(4, iD 1)] [] rfl rfl) (Ax ?_)
         exact ⟨⟨[_], ⟨.tmp _ _ rfl, tv⟩, rfl⟩, tv⟩
        ·refine Ao (Aj Ac rfl (AW rfl (qm rfl (Ad ?_))))
         exact sn [] h
     ·refine AV ?_
      exact sn [] h
    ·refine Ak hs (Ap (As Ac rfl (qf BG rfl (ql Gy rfl (AZ C6 rfl (qm rfl (Ad ?_)))))))
     refine AB (L := ER N p0 p1) h (fun v23 => mk [(2, oD (.ptr 2 0)), (3, oD (.ptr 3 0)), (95, pD (.sl (p0.fc.map AO))), (96, iD ((p0.fc.length : Int))), (97, iD v23)] [(2, .box (Al p0)), (3, .box (AR p1))]) (fun v24 => mk [] []) (fun _ _ => rfl) (sm [] _ _ rfl rfl) (fun j23 n23 v23 h => ?_) (fun v24 s h hs => ?_)
     ·unfold ER at h
      refine As Ac rfl (A0 rfl (Ad (Ap ?_)))
      refine Bd h rfl (fun h => ?_) fun h => ?_
      ·refine Ao (Ap (AL (As Ac rfl (qm rfl ?_))))
       obtain ⟨v26, a26, b26, h⟩ := Ah h
       refine qi C6 Dq a26 (Af b26) rfl (qK HQ Dq rfl (qz JO rfl (qa rfl (qs Dq rfl (Ad (As Ac rfl (qa rfl (qa rfl (Ad ?_)))))))))
       refine AU h (fun v27 => mk [(2, oD (.ptr 2 0)), (3, oD (.ptr 3 0)), (8, iD v23), (10, pD (.val (.int .u8 v27.1))), (11, pD (.val (.int .u8 v27.2))), (95, pD (.sl (p0.fc.map AO))), (96, iD ((p0.fc.length : Int))), (97, iD v23)] [(2, .box (Al p0)), (3, .box (AR p1))]) (fun j27 h => ?_) (fun v27 h => ?_)
       ·refine As Ac rfl (qL HQ Dq rfl ?_)
        obtain ⟨v28, a28, h⟩ := bind_some h
        refine AF [] (Li N v26 v28 a28) aQ rfl (Ad ?_)
        refine Bd h rfl (fun h => ?_) fun h => ?_
        ·refine Aj Ac rfl (qL CF Bc rfl (qf Em rfl (ql CP rfl ?_)))
         obtain ⟨v30, a30, h⟩ := bind_some h
         refine AF [] (KR N p1 v26.fg v30 a30) XA rfl (qf BD rfl (ql Bi rfl (qf Em rfl (ql CP rfl ?_))))
         obtain ⟨v31, a31, b31, h⟩ := Ah h
         refine qi AG En a31 (Af b31) rfl (qk CP rfl ?_)
         obtain ⟨c32, h⟩ := AD h
         refine Jr rfl c32 (Di rfl (qa rfl (qa rfl (AJ (by kernel_rfl) ?_))))
         exact sn [] h
        ·refine Ao ?_
         exact sn [] h
       ·refine AU h (fun v33 => mk [(2, oD (.ptr 2 0)), (3, oD (.ptr 3 0)), (95, pD (.sl (p0.fc.map AO))), (96, iD ((p0.fc.length : Int))), (97, iD v23), (133, bD v33)] [(2, .box (Al p0)), (3, .box (AR p1))]) (fun j33 h => ?_) (fun v33 h => ?_)
        ·refine Aj Ac rfl (qm rfl (qf DF rfl (ql II rfl (qm rfl ?_))))
         obtain ⟨v34, a34, b34, h⟩ := Ah h
         refine qi EO HB a34 (Af b34) rfl (qk LS rfl (Ke rfl (CU rfl (qm rfl ?_))))
         refine E1 124 h rfl (fun h => ?_) fun h => ?_
         ·refine qn rfl (qn rfl (qn rfl (qn rfl (qn rfl (qn rfl (qn rfl (qn rfl (qp rfl (Ad ?_)))))))))
          exact sn [] h
         ·refine qf DF rfl (ql II rfl (qm rfl ?_))
          obtain ⟨v36, a36, b36, h⟩ := Ah h
          refine qi EO HB a36 (Af b36) rfl (qk LS rfl (qm rfl (Ke rfl (CU rfl (qp rfl (Ad ?_))))))
          exact sn [] h
        ·refine Bd h rfl (fun h => ?_) fun h => ?_
         ·refine As Ac rfl (qa rfl (Ad ?_))
          obtain rfl := sj h
          refine Ak (sm [] [(4, iD 1)] [] rfl rfl) (Ax ?_)
          exact ⟨⟨[_], ⟨.tmp _ _ rfl, tv⟩, rfl⟩, tv⟩
         ·refine Ao (Aj Ac rfl (AW rfl (qm rfl (Ad ?_))))
          exact sn [] h
      ·refine AV ?_
       exact sn [] h
     ·refine Ak hs (As Ac rfl (qa rfl (Ad ?_)))
      obtain rfl := sj h
      refine Ak (sm [] [(4, iD 0)] [] rfl rfl) (Ax ?_)
      exact ⟨⟨[_], ⟨.tmp _ _ rfl, tv⟩, rfl⟩, tv⟩
theorem GZ (N : Nat) (p0 : List Int) (r : (List Int)) (h : Cn N p0 = some r) : Ay Tryz.prog 146 [pD (.sl (p0.map EI))] [(1, r.map EI)] (oD (.own 0)) := by
 unfold Cn at h
 refine An (n := 8) (rs := [.tmp 2]) Tryz.func146 rfl rfl rfl (A2 rfl) (A2 rfl) rfl fun w0 S0 => ?_
 refine As Ac rfl (qa rfl (Ad (Ap (As Ac rfl (qm rfl ?_)))))
 refine Nq (.p rfl) rfl EO ?_
 refine Ad ?_
 refine Nl rfl (fun c2 => ?_) ?_
 ·have c2 := List.map_eq_nil_iff.1 c2
  rw [c2] at h
  have h : (some (([] : List Int))) = some r := h
  refine As Ac rfl (qa rfl (Ad ?_))
  obtain rfl := sj h
  refine Ak ((Bl 2 2001 1 rfl rfl rfl).trans (sm [(1000, 2001)] [(2, oD (.own 1000))] [(1000, .vec 1 ((([] : List Int)).map EI))] rfl rfl)) (Ax ?_)
  exact ⟨⟨[_], ⟨.tmp _ _ rfl, tv⟩, rfl⟩, ⟨rfl, tv⟩⟩
 ·refine Ao (As Ac rfl (E2 EO HB Sk rfl (qm rfl ?_)))
  obtain ⟨c1, h⟩ := AD h
  refine HM (f := EI) EO EO HB Uo Sk (fun _ => rfl) c1 rfl (qa rfl (Ad ?_))
  obtain rfl := sj h
  refine Ak (sm [(1000, 7)] [(2, oD (.own 1000))] [(1000, .vec 1 (((([] : List Int)) ++ p0).map EI))] rfl rfl) (Ax ?_)
  exact ⟨⟨[_], ⟨.tmp _ _ rfl, tv⟩, rfl⟩, ⟨rfl, tv⟩⟩
theorem R3 (N : Nat) (p0 : Ae) (p1 : Ag) (r : (List Ag) × Int) (h : Ij N p0 p1 = some r) : Ay Tryz.prog 123 [.e (.agg (Al p0)), .e (.agg (AR p1))] [(3, r.1.map FT)] (.tup [.one (.own 0), .one (iC r.2)]) := by
 unfold Ij at h
 refine An (n := 75) (rs := [.tmp 4, .tmp 5]) Tryz.func123 rfl rfl rfl (A2 rfl) (A2 rfl) rfl fun w0 S0 => ?_
 refine As Ac rfl (qb rfl (qb rfl (qa rfl (qa rfl (Ad (Ap (As Ac rfl (qL D0 CX rfl (qL CF Bc rfl ?_)))))))))
 obtain ⟨v1, a1, h⟩ := bind_some h
 refine AF [] (Ks N p0 p1 v1 a1) Zg rfl (qa rfl (Ad (As Ac rfl (qm rfl (CU rfl (Ad ?_))))))
 refine Bd h rfl (fun h => ?_) fun h => ?_
 ·refine As Ac rfl (qm rfl (qa rfl (qa rfl (Ad ?_))))
  obtain rfl := sj h
  refine Ak ((Bl 4 2001 3 rfl rfl rfl).trans (sm [(1000, 2001)] [(4, oD (.own 1000)), (5, iD v1)] [(1000, .vec 3 ((([] : List Ag)).map FT))] rfl rfl)) (Ax ?_)
  exact ⟨⟨[_, _], ⟨.tmp _ _ rfl, ⟨.tmp _ _ rfl, tv⟩⟩, rfl⟩, ⟨rfl, tv⟩⟩
 ·refine Ao (As Ac rfl (qa rfl (Ad (Ap (As Ac rfl (qf B8 rfl (ql Bi rfl (AZ AG rfl (qm rfl (Ad ?_))))))))))
  refine AB (L := ES N p1) h (fun v3 => mk [(3, oD (.ptr 3 0)), (7, oD (.own 2002)), (22, pD (.sl (p1.fa.map Aw))), (23, iD ((p1.fa.length : Int))), (24, iD v3.2)] [(3, .box (AR p1)), (2002, .vec 1 (v3.1.map Aw))]) (fun v4 => mk [(3, oD (.ptr 3 0)), (7, oD (.own 2003))] [(3, .box (AR p1)), (2003, .vec 1 (v4.map Aw))]) (fun _ _ => rfl) ((Bl 7 2005 1 rfl rfl rfl).trans (sm [(2002, 2005)] _ _ rfl rfl)) (fun j3 n3 v3 h => ?_) (fun v4 s h hs => ?_)
  ·unfold ES at h
   refine As Ac rfl (A0 rfl (Ad (Ap ?_)))
   refine Bd h rfl (fun h => ?_) fun h => ?_
   ·refine Ao ?_
    refine AU h (fun v6 => mk [(3, oD (.ptr 3 0)), (7, oD (.own 2004)), (22, pD (.sl (p1.fa.map Aw))), (23, iD ((p1.fa.length : Int))), (24, iD v3.2)] [(3, .box (AR p1)), (2004, .vec 1 (v6.map Aw))]) (fun j6 h => ?_) (fun v6 h => ?_)
    ·refine AL (As Ac rfl (qm rfl ?_))
     obtain ⟨v7, a7, b7, h⟩ := Ah h
     refine qi AG En a7 (Af b7) rfl (qk CP rfl (qa rfl (qa rfl (Ad (As Ac rfl (qm rfl (Ee rfl (Ad ?_))))))))
     refine Bd h rfl (fun h => ?_) fun h => ?_
     ·refine Aj Ac rfl (qm rfl (qm rfl (E2 AG En Lb rfl ?_)))
      obtain ⟨c9, h⟩ := AD h
      refine ED (f := Aw) AG AG En L7 Lb c9 rfl (qa rfl (Ad ?_))
      exact sn [(2004, 34)] h
     ·refine Ao ?_
      exact sn [(2004, 2002)] h
    ·refine Aj Ac rfl (AW rfl (qm rfl (Ad ?_)))
     exact sn [(2002, 2004)] h
   ·refine AV ?_
    exact sn [(2003, 2002)] h
  ·refine Ak hs (As Ac rfl (qa rfl (Ad (Ap (As Ac rfl (qm rfl (D9 AG rfl ?_)))))))
   obtain ⟨c10, h⟩ := AD h
   refine Jr rfl c10 (qm rfl (Ad ?_))
   refine AB (L := DX N p1 v4) h (fun v11 => mk [(3, oD (.ptr 3 0)), (7, oD (.own 2006)), (10, oD (.own 2007)), (38, iD ((Dp .i64 1 ((v4.length : Int))))), (39, iD v11.2)] [(3, .box (AR p1)), (2006, .vec 1 (v4.map Aw)), (2007, .vec 3 (v11.1.map FT))]) (fun v12 => mk [(10, oD (.own 2008))] [(2008, .vec 3 (v12.map FT))]) (fun _ _ => rfl) ((Bl 10 2027 3 rfl rfl rfl).trans (sm [(2006, 2003), (2007, 2027)] _ _ rfl rfl)) (fun j11 n11 v11 h => ?_) (fun v12 s h hs => ?_)
   ·unfold DX at h
    refine As Ac rfl (A0 rfl (Ad (Ap ?_)))
    refine Bd h rfl (fun h => ?_) fun h => ?_
    ·refine Ao (Ap (AL (As Ac rfl (qm rfl (qa rfl (Ad (As Ac rfl (qf DY rfl (ql Bi rfl ?_)))))))))
     obtain ⟨v14, a14, h⟩ := bind_some h
     refine AF [2009] (C4 N p1.fd v14 a14) Tk rfl (qf B8 rfl (ql Bi rfl ?_))
     obtain ⟨v15, a15, h⟩ := bind_some h
     refine AF [2010] (C4 N p1.fa v15 a15) Tk rfl (qf DF rfl (ql II rfl ?_))
     obtain ⟨v16, a16, h⟩ := bind_some h
     refine AF [2011] (GZ N p1.fe v16 a16) ZI rfl (Bx Fx JK rfl (qz Fx rfl (qs Bc rfl (AJ (by kernel_rfl) (Ap (As Ac rfl (qm rfl (D9 AG rfl (qm rfl (Ad ?_))))))))))
     refine AB (L := DZ N v4 v11) h (fun v17 => mk [(3, oD (.ptr 3 0)), (7, oD (.own 2015)), (10, oD (.own 2016)), (11, iD v11.2), (12, oD (.ptr 12 0)), (38, iD ((Dp .i64 1 ((v4.length : Int))))), (39, iD v11.2), (52, oD (.own 2015)), (53, iD ((v4.length : Int))), (54, iD v17.2)] [(3, .box (AR p1)), (12, .box [.own 2012, .own 2013, .own 2014]), (2012, .vec 1 (v14.map Aw)), (2013, .vec 1 (v17.1.map Aw)), (2014, .vec 1 (v16.map EI)), (2015, .vec 1 (v4.map Aw)), (2016, .vec 3 (v11.1.map FT))]) (fun v18 => mk [(3, oD (.ptr 3 0)), (7, oD (.own 2020)), (10, oD (.own 2021)), (12, oD (.ptr 12 0)), (38, iD ((Dp .i64 1 ((v4.length : Int))))), (39, iD v11.2)] [(3, .box (AR p1)), (12, .box [.own 2017, .own 2018, .own 2019]), (2017, .vec 1 (v14.map Aw)), (2018, .vec 1 (v18.map Aw)), (2019, .vec 1 (v16.map EI)), (2020, .vec 1 (v4.map Aw)), (2021, .vec 3 (v11.1.map FT))]) (fun _ _ => rfl) (sm [(2012, 2009), (2013, 2010), (2014, 2011), (2015, 2006), (2016, 2007)] _ _ rfl rfl) (fun j17 n17 v17 h => ?_) (fun v18 s h hs => ?_)
     ·unfold DZ at h
      refine As Ac rfl (A0 rfl (Ad (Ap ?_)))
      refine Bd h rfl (fun h => ?_) fun h => ?_
      ·refine Ao ?_
       refine AU h (fun v20 => mk [(3, oD (.ptr 3 0)), (7, oD (.own 2025)), (10, oD (.own 2026)), (11, iD v11.2), (12, oD (.ptr 12 0)), (38, iD ((Dp .i64 1 ((v4.length : Int))))), (39, iD v11.2), (52, oD (.own 2025)), (53, iD ((v4.length : Int))), (54, iD v17.2)] [(3, .box (AR p1)), (12, .box [.own 2022, .own 2023, .own 2024]), (2022, .vec 1 (v14.map Aw)), (2023, .vec 1 (v20.map Aw)), (2024, .vec 1 (v16.map EI)), (2025, .vec 1 (v4.map Aw)), (2026, .vec 3 (v11.1.map FT))]) (fun j20 h => ?_) (fun v20 h => ?_)
       ·refine AL (As Ac rfl (qm rfl ?_))
        obtain ⟨v21, a21, b21, h⟩ := Ah h
        refine qI AG En a21 (Af b21) rfl (qj CP (Af b21) rfl (qa rfl (qa rfl (Ad (As Ac rfl (qm rfl (qm rfl ?_)))))))
        obtain ⟨c22, h⟩ := AD h
        refine IK rfl c22 (Nz rfl (B5 rfl (Ad ?_)))
        refine Bd h rfl (fun h => ?_) fun h => ?_
        ·refine Aj Ac rfl (qf B8 rfl (ql Bi rfl (qm rfl ?_)))
         obtain ⟨v24, a24, b24, h⟩ := Ah h
         refine qI AG En a24 (Af b24) rfl ?_
         refine A9 rfl rfl rfl rfl (Af b24) rfl En rfl (A2 rfl) (A6 Aw v17.1 _ ((-1))) ?_
         refine Ad ?_
         exact sn [(2022, 2012), (2023, 2013), (2024, 2014), (2025, 2015), (2026, 2016)] h
        ·refine Ao ?_
         exact sn [(2022, 2012), (2023, 2013), (2024, 2014), (2025, 2015), (2026, 2016)] h
       ·refine Aj Ac rfl (AW rfl (qm rfl (Ad ?_)))
        exact sn [(2012, 2022), (2013, 2023), (2014, 2024), (2015, 2025), (2016, 2026)] h
      ·refine AV ?_
       exact sn [(2017, 2012), (2018, 2013), (2019, 2014), (2020, 2015), (2021, 2016)] h
     ·refine Ak hs (Aj Ac rfl (qm rfl (qL CF Bc rfl (E0 (BX 2017 _ _ rfl rfl) (E0 (BX 2018 _ _ rfl rfl) (E0 (BX 2019 _ _ rfl rfl) (E2 KS Bc Fx rfl ?_)))))))
      obtain ⟨c25, h⟩ := AD h
      refine ED (f := FT) KS KS Bc ZJ Fx c25 rfl (qa rfl (Ad (Aj Ac rfl (AW rfl (qm rfl (Ad ?_))))))
      exact sn [(2006, 2020), (2007, 72)] h
    ·refine AV ?_
     exact sn [(2008, 2007)] h
   ·refine Ak hs (As Ac rfl (qm rfl (qa rfl (qa rfl (Ad ?_)))))
    obtain rfl := sj h
    refine Ak (sm [(1000, 2008)] [(4, oD (.own 1000)), (5, iD 0)] [(1000, .vec 3 (v12.map FT))] rfl rfl) (Ax ?_)
    exact ⟨⟨[_, _], ⟨.tmp _ _ rfl, ⟨.tmp _ _ rfl, tv⟩⟩, rfl⟩, ⟨rfl, tv⟩⟩
theorem Pd (N : Nat) (p0 : Ae) (p1 : Ag) (r : (List Aa)) (h : GY N p0 p1 = some r) : Ay Tryz.prog 124 [.e (.agg (Al p0)), .e (.agg (AR p1))] [(3, r.map Ab)] (oD (.own 0)) := by
 unfold GY at h
 refine An (n := 98) (rs := [.tmp 4]) Tryz.func124 rfl rfl rfl (A2 rfl) (A2 rfl) rfl fun w0 S0 => ?_
 refine As Ac rfl (qb rfl (qb rfl (qa rfl (Ad (As Ac rfl (qa rfl (Ad (Ap (As Ac rfl (qf BG rfl (ql Gy rfl (AZ C6 rfl (qm rfl (Ad ?_))))))))))))))
 refine AB (L := Es N p0 p1) h (fun v1 => mk [(3, oD (.ptr 3 0)), (5, oD (.own 2001)), (15, pD (.sl (p0.fc.map AO))), (16, iD ((p0.fc.length : Int))), (17, iD v1.2)] [(3, .box (AR p1)), (2001, .vec 3 (v1.1.map Ab))]) (fun v2 => mk [(5, oD (.own 2002))] [(2002, .vec 3 (v2.map Ab))]) (fun _ _ => rfl) ((Bl 5 2013 3 rfl rfl rfl).trans (sm [(2001, 2013)] _ _ rfl rfl)) (fun j1 n1 v1 h => ?_) (fun v2 s h hs => ?_)
 ·unfold Es at h
  refine As Ac rfl (A0 rfl (Ad (Ap ?_)))
  refine Bd h rfl (fun h => ?_) fun h => ?_
  ·refine Ao (Ap (AL (As Ac rfl (qm rfl ?_))))
   obtain ⟨v4, a4, b4, h⟩ := Ah h
   refine qi C6 Dq a4 (Af b4) rfl (qK HQ Dq rfl (qz JO rfl (qa rfl (qs Dq rfl (Ad (As Ac rfl (qL CF Bc rfl (qf Em rfl (ql CP rfl ?_)))))))))
   obtain ⟨v5, a5, h⟩ := bind_some h
   refine AF [] (KR N p1 v4.fg v5 a5) XA rfl (qL CF Bc rfl (qf JL rfl (ql CP rfl ?_)))
   obtain ⟨v6, a6, h⟩ := bind_some h
   refine AF [] (KR N p1 v4.fk v6 a6) XA rfl (qa rfl (qa rfl (AJ (by kernel_rfl) ?_)))
   refine AU h (fun v7 => mk [(3, oD (.ptr 3 0)), (5, oD (.own 2003)), (6, iD v1.2), (7, oD (.ptr 7 0)), (8, pD (.val (.int .u8 v7))), (9, pD (.val (.int .u8 v6))), (15, pD (.sl (p0.fc.map AO))), (16, iD ((p0.fc.length : Int))), (17, iD v1.2)] [(3, .box (AR p1)), (7, .box (Bt v4)), (2003, .vec 3 (v1.1.map Ab))]) (fun j7 h => ?_) (fun v7 h => ?_)
   ·refine As Ac rfl (qL HQ Dq rfl ?_)
    obtain ⟨v8, a8, h⟩ := bind_some h
    refine AF [] (Li N v4 v8 a8) aQ rfl (Ad ?_)
    refine Bd h rfl (fun h => ?_) fun h => ?_
    ·refine Aj Ac rfl (qf DF rfl (ql II rfl (qm rfl ?_)))
     obtain ⟨v10, a10, b10, h⟩ := Ah h
     refine qi EO HB a10 (Af b10) rfl (qk LS rfl (qa rfl (Ad ?_)))
     exact sn [(2003, 2001)] h
    ·refine Ao ?_
     exact sn [(2003, 2001)] h
   ·refine As Ac rfl (qf Fj rfl (ql HA rfl (AZ D4 rfl (qm rfl (Ad ?_)))))
    refine AB (L := C5 N v1 v4 v6 v7) h (fun v11 => mk [(3, oD (.ptr 3 0)), (5, oD (.own 2004)), (6, iD v1.2), (7, oD (.ptr 7 0)), (8, pD (.val (.int .u8 v7))), (9, pD (.val (.int .u8 v6))), (15, pD (.sl (p0.fc.map AO))), (16, iD ((p0.fc.length : Int))), (17, iD v1.2), (39, iD ((v4.fj.length : Int))), (40, iD v11.2)] [(3, .box (AR p1)), (7, .box (Bt v4)), (2004, .vec 3 (v11.1.map Ab))]) (fun v12 => mk [(3, oD (.ptr 3 0)), (5, oD (.own 2005)), (15, pD (.sl (p0.fc.map AO))), (16, iD ((p0.fc.length : Int))), (17, iD v1.2)] [(3, .box (AR p1)), (2005, .vec 3 (v12.map Ab))]) (fun _ _ => rfl) (sm [(2004, 2003)] _ _ rfl rfl) (fun j11 n11 v11 h => ?_) (fun v12 s h hs => ?_)
    ·unfold C5 at h
     refine As Ac rfl (A0 rfl (Ad (Ap ?_)))
     refine Bd h rfl (fun h => ?_) fun h => ?_
     ·refine Ao ?_
      refine AU h (fun v14 => mk [(3, oD (.ptr 3 0)), (5, oD (.own 2006)), (6, iD v1.2), (7, oD (.ptr 7 0)), (8, pD (.val (.int .u8 v7))), (9, pD (.val (.int .u8 v6))), (15, pD (.sl (p0.fc.map AO))), (16, iD ((p0.fc.length : Int))), (17, iD v1.2), (39, iD ((v4.fj.length : Int))), (40, iD v11.2)] [(3, .box (AR p1)), (7, .box (Bt v4)), (2006, .vec 3 (v14.map Ab))]) (fun j14 h => ?_) (fun v14 h => ?_)
      ·refine AL (As Ac rfl (qm rfl (qa rfl (Ad (Ap (As Ac rfl (qm rfl (qm rfl ?_))))))))
       obtain ⟨c15, h⟩ := AD h
       refine IK rfl c15 (Nz rfl (B5 rfl (Ad ?_)))
       refine Bd h rfl (fun h => ?_) fun h => ?_
       ·refine AV ?_
        exact sn [(2006, 2004)] h
       ·refine Ao (As Ac rfl (qa rfl (Ad (Ap (As Ac rfl (qf Fj rfl (ql HA rfl (qm rfl ?_))))))))
        obtain ⟨v17, a17, b17, h⟩ := Ah h
        refine qi D4 IH a17 (Af b17) rfl (qk L9 rfl (AZ EZ rfl (qm rfl (Ad ?_))))
        refine AB (L := Cw N v1 v4 v6 v11 v17) h (fun v18 => mk [(3, oD (.ptr 3 0)), (5, oD (.own 2007)), (6, iD v1.2), (7, oD (.ptr 7 0)), (8, pD (.val (.int .u8 v7))), (9, pD (.val (.int .u8 v6))), (10, iD v11.2), (11, bD v18.2.1), (15, pD (.sl (p0.fc.map AO))), (16, iD ((p0.fc.length : Int))), (17, iD v1.2), (39, iD ((v4.fj.length : Int))), (40, iD v11.2), (52, pD (.sl (v17.map eB))), (53, iD ((v17.length : Int))), (54, iD v18.2.2)] [(3, .box (AR p1)), (7, .box (Bt v4)), (2007, .vec 3 (v18.1.map Ab))]) (fun v19 => mk [(3, oD (.ptr 3 0)), (5, oD (.own 2008)), (6, iD v1.2), (7, oD (.ptr 7 0)), (8, pD (.val (.int .u8 v7))), (9, pD (.val (.int .u8 v6))), (10, iD v11.2), (11, bD v19.2), (15, pD (.sl (p0.fc.map AO))), (16, iD ((p0.fc.length : Int))), (17, iD v1.2), (39, iD ((v4.fj.length : Int))), (40, iD v11.2)] [(3, .box (AR p1)), (7, .box (Bt v4)), (2008, .vec 3 (v19.1.map Ab))]) (fun _ _ => rfl) (sm [(2007, 2004)] _ _ rfl rfl) (fun j18 n18 v18 h => ?_) (fun v19 s h hs => ?_)
        ·unfold Cw at h
         refine As Ac rfl (A0 rfl (Ad (Ap ?_)))
         refine Bd h rfl (fun h => ?_) fun h => ?_
         ·refine Ao ?_
          refine AU h (fun v21 => mk [(3, oD (.ptr 3 0)), (5, oD (.own 2009)), (6, iD v1.2), (7, oD (.ptr 7 0)), (8, pD (.val (.int .u8 v7))), (9, pD (.val (.int .u8 v6))), (10, iD v11.2), (11, bD v21.2), (15, pD (.sl (p0.fc.map AO))), (16, iD ((p0.fc.length : Int))), (17, iD v1.2), (39, iD ((v4.fj.length : Int))), (40, iD v11.2), (52, pD (.sl (v17.map eB))), (53, iD ((v17.length : Int))), (54, iD v18.2.2)] [(3, .box (AR p1)), (7, .box (Bt v4)), (2009, .vec 3 (v21.1.map Ab))]) (fun j21 h => ?_) (fun v21 h => ?_)
          ·refine AL (As Ac rfl (qm rfl ?_))
           obtain ⟨v22, a22, b22, h⟩ := Ah h
           refine qi EZ MO a22 (Af b22) rfl (qk Uf rfl (qa rfl (qa rfl (Ad (Ap (As Ac rfl (qm rfl (qm rfl ?_))))))))
           obtain ⟨c23, h⟩ := AD h
           refine IK rfl c23 (Nz rfl (B5 rfl (Ad ?_)))
           refine Bd h rfl (fun h => ?_) fun h => ?_
           ·refine AV ?_
            exact sn [(2009, 2007)] h
           ·refine Ao ?_
            refine AU h (fun v25 => mk [(3, oD (.ptr 3 0)), (5, oD (.own 2010)), (6, iD v1.2), (7, oD (.ptr 7 0)), (8, pD (.val (.int .u8 v7))), (9, pD (.val (.int .u8 v6))), (10, iD v11.2), (11, bD v25), (12, iD v18.2.2), (13, bD v22), (15, pD (.sl (p0.fc.map AO))), (16, iD ((p0.fc.length : Int))), (17, iD v1.2), (39, iD ((v4.fj.length : Int))), (40, iD v11.2), (52, pD (.sl (v17.map eB))), (53, iD ((v17.length : Int))), (54, iD v18.2.2)] [(3, .box (AR p1)), (7, .box (Bt v4)), (2010, .vec 3 (v18.1.map Ab))]) (fun j25 h => ?_) (fun v25 h => ?_)
            ·refine Aj Ac rfl (qm rfl (qm rfl ?_))
             refine E1 65 h rfl (fun h => ?_) fun h => ?_
             ·refine qn rfl (qp rfl (qa rfl (Ad ?_)))
              exact sn [(2010, 2007)] h
             ·refine qm rfl (qp rfl (qa rfl (Ad ?_)))
              exact sn [(2010, 2007)] h
            ·refine AU h (fun v27 => mk [(3, oD (.ptr 3 0)), (5, oD (.own 2011)), (6, iD v1.2), (7, oD (.ptr 7 0)), (8, pD (.val (.int .u8 v7))), (9, pD (.val (.int .u8 v6))), (10, iD v11.2), (11, bD v25), (12, iD v18.2.2), (15, pD (.sl (p0.fc.map AO))), (16, iD ((p0.fc.length : Int))), (17, iD v1.2), (39, iD ((v4.fj.length : Int))), (40, iD v11.2), (52, pD (.sl (v17.map eB))), (53, iD ((v17.length : Int))), (54, iD v18.2.2), (74, bD v27)] [(3, .box (AR p1)), (7, .box (Bt v4)), (2011, .vec 3 (v18.1.map Ab))]) (fun j27 h => ?_) (fun v27 h => ?_)
             ·refine Aj Ac rfl (qm rfl (CQ rfl (qm rfl ?_)))
              refine E1 70 h rfl (fun h => ?_) fun h => ?_
              ·refine qf KA rfl (ql Uf rfl (CQ rfl (qp rfl (Ad ?_))))
               exact sn [(2011, 2010)] h
              ·refine qn rfl (qn rfl (qn rfl (qp rfl (Ad ?_))))
               exact sn [(2011, 2010)] h
             ·refine Bd h rfl (fun h => ?_) fun h => ?_
              ·refine Aj Ac rfl (qm rfl (qm rfl (qm rfl (qm rfl (Bx HV QJ rfl (E2 AT AQ HV rfl ?_))))))
               obtain ⟨c30, h⟩ := AD h
               refine ED (f := Ab) AT AT AQ OQ HV c30 rfl (qa rfl (Ad ?_))
               exact sn [(2009, 81)] h
              ·refine Ao ?_
               exact sn [(2009, 2011)] h
          ·refine Aj Ac rfl (AW rfl (qm rfl (Ad ?_)))
           exact sn [(2007, 2009)] h
         ·refine AV ?_
          exact sn [(2008, 2007)] h
        ·refine Ak hs ?_
         refine AU h (fun v31 => mk [(3, oD (.ptr 3 0)), (5, oD (.own 2012)), (6, iD v1.2), (7, oD (.ptr 7 0)), (8, pD (.val (.int .u8 v7))), (9, pD (.val (.int .u8 v6))), (10, iD v11.2), (15, pD (.sl (p0.fc.map AO))), (16, iD ((p0.fc.length : Int))), (17, iD v1.2), (39, iD ((v4.fj.length : Int))), (40, iD v11.2), (88, bD v31)] [(3, .box (AR p1)), (7, .box (Bt v4)), (2012, .vec 3 (v19.1.map Ab))]) (fun j31 h => ?_) (fun v31 h => ?_)
         ·refine Aj Ac rfl (qf KA rfl (ql Uf rfl (qm rfl ?_)))
          refine E1 85 h rfl (fun h => ?_) fun h => ?_
          ·refine qm rfl (CQ rfl (qp rfl (Ad ?_)))
           exact sn [(2012, 2008)] h
          ·refine qn rfl (qn rfl (qp rfl (Ad ?_)))
           exact sn [(2012, 2008)] h
         ·refine Bd h rfl (fun h => ?_) fun h => ?_
          ·refine Aj Ac rfl (qm rfl (qm rfl (qm rfl (Bx HV QJ rfl (E2 AT AQ HV rfl ?_)))))
           obtain ⟨c34, h⟩ := AD h
           refine ED (f := Ab) AT AT AQ OQ HV c34 rfl (qa rfl (Ad ?_))
           exact sn [(2006, 94)] h
          ·refine Ao ?_
           exact sn [(2006, 2012)] h
      ·refine Aj Ac rfl (AW rfl (qm rfl (Ad ?_)))
       exact sn [(2004, 2006)] h
     ·refine AV ?_
      exact sn [(2005, 2004)] h
    ·refine Ak hs (Aj Ac rfl (AW rfl (qm rfl (Ad ?_))))
     exact sn [(2001, 2005)] h
  ·refine AV ?_
   exact sn [(2002, 2001)] h
 ·refine Ak hs (As Ac rfl (qm rfl (qa rfl (Ad ?_))))
  obtain rfl := sj h
  refine Ak (sm [(1000, 2002)] [(4, oD (.own 1000))] [(1000, .vec 3 (v2.map Ab))] rfl rfl) (Ax ?_)
  exact ⟨⟨[_], ⟨.tmp _ _ rfl, tv⟩, rfl⟩, ⟨rfl, tv⟩⟩
theorem Tb (N : Nat) (p0 : Ae) (p1 : Ag) (r : Ag × Aa × Int) (h : IV N p0 p1 = some r) : Ay Tryz.prog 87 [.e (.agg (Al p0)), .e (.agg (AR p1))] [] (.tup [.agg (AR r.1), .agg (Fw r.2.1), .one (iC r.2.2)]) := by
 unfold IV at h
 refine An (n := 42) (rs := [.cell 4 64, .cell 5 45, .tmp 6]) Tryz.func87 rfl rfl rfl (A2 rfl) (A2 rfl) rfl fun w0 S0 => ?_
 refine As Ac rfl (qb rfl (qb rfl (qz Fx rfl (qz HV rfl (qa rfl (Ad (As Ac rfl (qL D0 CX rfl (qL CF Bc rfl ?_)))))))))
 obtain ⟨v1, a1, h⟩ := bind_some h
 refine AF [2001] (R3 N p0 p1 v1 a1) bZ rfl (qm rfl (qx rfl (qx rfl (qa rfl (qa rfl (Ad (Ap (As Ac rfl (qm rfl (CU rfl (Ad ?_)))))))))))
 refine Bd h rfl (fun h => ?_) fun h => ?_
 ·refine As Ac rfl (Bx Fx JK rfl (Bx HV QJ rfl (qm rfl (qs Bc rfl (qs AQ rfl (qa rfl (Ad ?_)))))))
  obtain rfl := sj h
  refine Ak ((Q3 4 _ rfl).trans (sm [] [(4, oD (.ptr 4 0)), (5, oD (.ptr 5 0)), (6, iD v1.2)] [(4, .box [sC ((([] : List Int)).map Aw), sC ((([] : List Int)).map Aw), sC ((([] : List Int)).map EI)]), (5, .box [iC 0, iC 0, iC 0])] rfl rfl)) (Ax ?_)
  exact ⟨⟨[_, _, _], ⟨.cellN _ _ _ _ _ _ _ rfl rfl CF Bc rfl rfl (Kj rfl), ⟨.cellN _ _ _ _ _ _ _ rfl rfl Du AQ rfl rfl (Kj rfl), ⟨.tmp _ _ rfl, tv⟩⟩⟩, rfl⟩, tv⟩
 ·refine Ao (Ap (As Ac rfl (qm rfl (D9 KS rfl (qm rfl (Ad ?_))))))
  refine AB (L := FZ N p0 v1) h (fun v3 => mk [(2, oD (.ptr 2 0)), (4, oD (.ptr 4 0)), (5, oD (.ptr 5 0)), (23, oD (.own 2002)), (24, iD ((v1.1.length : Int))), (25, iD v3)] [(2, .box (Al p0)), (4, .box [.pure (.nil0), .pure (.nil0), .pure (.nil0)]), (5, .box [iC 0, iC 0, iC 0]), (2002, .vec 3 (v1.1.map FT))]) (fun v4 => mk [(4, oD (.ptr 4 0)), (5, oD (.ptr 5 0))] [(4, .box [.pure (.nil0), .pure (.nil0), .pure (.nil0)]), (5, .box [iC 0, iC 0, iC 0])]) (fun _ _ => rfl) (sm [(2002, 2001)] _ _ rfl rfl) (fun j3 n3 v3 h => ?_) (fun v4 s h hs => ?_)
  ·unfold FZ at h
   refine As Ac rfl (A0 rfl (Ad (Ap ?_)))
   refine Bd h rfl (fun h => ?_) fun h => ?_
   ·refine Ao (Ap (AL (As Ac rfl ?_)))
    obtain ⟨v6, a6, b6, h⟩ := Ah h
    refine qI KS Bc a6 (Af b6) rfl (qJ CF Bc (Af b6) rfl (qz Fx rfl (qs Bc rfl (Ad (As Ac rfl (qL D0 CX rfl (qL CF Bc rfl ?_)))))))
    obtain ⟨v7, a7, h⟩ := bind_some h
    refine AF [2003] (Pd N p0 v6 v7 a7) cm rfl (qa rfl (Ad (As Ac rfl (qm rfl (D9 AT rfl (Gt rfl (Ad ?_)))))))
    refine Bd h rfl (fun h => ?_) fun h => ?_
    ·refine As Ac rfl (qL CF Bc rfl (qm rfl ?_))
     obtain ⟨v9, a9, b9, h⟩ := Ah h
     refine qI AT AQ a9 (Af b9) rfl (qJ Du AQ (Af b9) rfl (qs Bc rfl (qs AQ rfl (qa rfl (AJ (by kernel_rfl) ?_)))))
     obtain rfl := sj h
     refine Ak (sm [] [(4, oD (.ptr 4 0)), (5, oD (.ptr 5 0)), (6, iD 0)] [(4, .box (AR v6)), (5, .box (Fw v9))] rfl rfl) (Ax ?_)
     exact ⟨⟨[_, _, _], ⟨.cellN _ _ _ _ _ _ _ rfl rfl CF Bc rfl rfl (Kj rfl), ⟨.cellN _ _ _ _ _ _ _ rfl rfl Du AQ rfl rfl (Kj rfl), ⟨.tmp _ _ rfl, tv⟩⟩⟩, rfl⟩, tv⟩
    ·refine Ao (Aj Ac rfl (AW rfl (qm rfl (Ad ?_))))
     exact sn [] h
   ·refine AV ?_
    exact sn [] h
  ·refine Ak hs (As Ac rfl (Bx Fx JK rfl (Bx HV QJ rfl (qs Bc rfl (qs AQ rfl (qa rfl (Ad ?_)))))))
   obtain rfl := sj h
   refine Ak ((Q3 4 _ rfl).trans (sm [] [(4, oD (.ptr 4 0)), (5, oD (.ptr 5 0)), (6, iD 15)] [(4, .box [sC ((([] : List Int)).map Aw), sC ((([] : List Int)).map Aw), sC ((([] : List Int)).map EI)]), (5, .box [iC 0, iC 0, iC 0])] rfl rfl)) (Ax ?_)
   exact ⟨⟨[_, _, _], ⟨.cellN _ _ _ _ _ _ _ rfl rfl CF Bc rfl rfl (Kj rfl), ⟨.cellN _ _ _ _ _ _ _ rfl rfl Du AQ rfl rfl (Kj rfl), ⟨.tmp _ _ rfl, tv⟩⟩⟩, rfl⟩, tv⟩
theorem NN (N : Nat) (p0 : Ae) (p1 : Ag) (r : Bool × Int) (h : Ho N p0 p1 = some r) : Ay Tryz.prog 63 [.e (.agg (Al p0)), .e (.agg (AR p1))] [] (.tup [.one (.pure (.val (.bool r.1))), .one (iC r.2)]) := by
 unfold Ho at h
 refine An (n := 22) (rs := [.tmp 4, .tmp 5]) Tryz.func63 rfl rfl rfl (A2 rfl) (A2 rfl) rfl fun w0 S0 => ?_
 refine As Ac rfl (qb rfl (qb rfl (qa rfl (qa rfl (Ad (As Ac rfl (qL D0 CX rfl (qL CF Bc rfl ?_))))))))
 obtain ⟨v1, a1, h⟩ := bind_some h
 refine AF [] (Tb N p0 p1 v1 a1) dn rfl (qm rfl (qx rfl (qx rfl (qx rfl (qz Fx rfl (qz HV rfl (qs Bc rfl (qs AQ rfl (qa rfl (Ad (As Ac rfl (qm rfl (Ad (AL (As Ac rfl (B5 rfl (qa rfl (Ad ?_))))))))))))))))))
 refine Bd h rfl (fun h => ?_) fun h => ?_
 ·refine As Ac rfl (qa rfl (qa rfl (Ad ?_)))
  obtain rfl := sj h
  refine Ak (sm [] [(4, bD false), (5, iD 0)] [] rfl rfl) (Ax ?_)
  exact ⟨⟨[_, _], ⟨.tmp _ _ rfl, ⟨.tmp _ _ rfl, tv⟩⟩, rfl⟩, tv⟩
 ·refine As Ac rfl (B5 rfl (qa rfl (Ad ?_)))
  refine Bd h rfl (fun h => ?_) fun h => ?_
  ·refine As Ac rfl (qa rfl (qa rfl (Ad ?_)))
   obtain rfl := sj h
   refine Ak (sm [] [(4, bD true), (5, iD 0)] [] rfl rfl) (Ax ?_)
   exact ⟨⟨[_, _], ⟨.tmp _ _ rfl, ⟨.tmp _ _ rfl, tv⟩⟩, rfl⟩, tv⟩
  ·refine As Ac rfl (qm rfl (qa rfl (qa rfl (Ad ?_))))
   obtain rfl := sj h
   refine Ak (sm [] [(4, bD false), (5, iD v1.2.2)] [] rfl rfl) (Ax ?_)
   exact ⟨⟨[_, _], ⟨.tmp _ _ rfl, ⟨.tmp _ _ rfl, tv⟩⟩, rfl⟩, tv⟩
theorem Pu (N : Nat) (p0 : Ag) (r : ByteArray) (h : IC N p0 = some r) : Ay Tryz.prog 88 [.e (.agg (AR p0))] [] (pD (.val (.string r))) := by
 unfold IC at h
 refine An (n := 53) (rs := [.tmp 2]) Tryz.func88 rfl rfl rfl (A2 rfl) (A2 rfl) rfl fun w0 S0 => ?_
 refine As Ac rfl (qb rfl (qa rfl (Ad (As Ac rfl (qf DY rfl (ql Bi rfl (AZ AG rfl (J3 rfl (qf DF rfl (ql II rfl (AZ EO rfl (AW rfl ?_))))))))))))
 obtain ⟨c1, h⟩ := AD h
 refine LN (.p rfl) rfl rfl rfl Ly Z7 aI (A2 rfl) bI rfl rfl rfl c1.1 c1.2.1 c1.2.2 (SC EI _ ((0 : Int))) ?_
 refine qa rfl (Ad (Ap (As Ac rfl (qf DY rfl (ql Bi rfl (AZ AG rfl (qm rfl (Ad ?_))))))))
 refine AB (L := FO N p0) h (fun v2 => mk [(1, oD (.ptr 1 0)), (3, oD (.own 2001)), (18, iD ((p0.fd.length : Int))), (19, iD v2.2)] [(1, .box (AR p0)), (2001, .vec 1 (v2.1.map EI))]) (fun v3 => mk [(1, oD (.ptr 1 0)), (3, oD (.own 2002))] [(1, .box (AR p0)), (2002, .vec 1 (v3.map EI))]) (fun _ _ => rfl) (sm [(2001, 15)] _ _ rfl rfl) (fun j2 n2 v2 h => ?_) (fun v3 s h hs => ?_)
 ·unfold FO at h
  refine As Ac rfl (A0 rfl (Ad (Ap ?_)))
  refine Bd h rfl (fun h => ?_) fun h => ?_
  ·refine Ao (Ap (AL (As Ac rfl (qm rfl (qa rfl (Ad (Aj Ac rfl (qm rfl (qf DY rfl (ql Bi rfl (qm rfl ?_)))))))))))
   obtain ⟨v5, a5, b5, h⟩ := Ah h
   refine qi AG En a5 (Af b5) rfl (qk CP rfl (I3 aF dg rfl (qf B8 rfl (ql Bi rfl (qm rfl ?_)))))
   obtain ⟨v6, a6, b6, h⟩ := Ah h
   refine qi AG En a6 (Af b6) rfl (qk CP rfl (AW rfl (I3 aF dg rfl (E2 Ly Z7 bI rfl ?_))))
   obtain ⟨c7, h⟩ := AD h
   refine ED (f := EI) Ly Ly Z7 aI bI c7 rfl (qa rfl (AJ (by kernel_rfl) (Aj Ac rfl (AW rfl (qm rfl (Ad ?_))))))
   exact sn [(2001, 37)] h
  ·refine AV ?_
   exact sn [(2002, 2001)] h
 ·refine Ak hs (Ap (As Ac rfl (qf DF rfl (ql II rfl (AZ EO rfl (qm rfl (Ad ?_)))))))
  refine AB (L := EE N p0) h (fun v8 => mk [(3, oD (.own 2003)), (40, pD (.sl (p0.fe.map EI))), (41, iD ((p0.fe.length : Int))), (42, iD v8.2)] [(2003, .vec 1 (v8.1.map EI))]) (fun v9 => mk [(3, oD (.own 2004))] [(2004, .vec 1 (v9.map EI))]) (fun _ _ => rfl) (sm [(2003, 2002)] _ _ rfl rfl) (fun j8 n8 v8 h => ?_) (fun v9 s h hs => ?_)
  ·unfold EE at h
   refine As Ac rfl (A0 rfl (Ad (Ap ?_)))
   refine Bd h rfl (fun h => ?_) fun h => ?_
   ·refine Ao (Ap (AL (As Ac rfl ?_)))
    obtain ⟨v11, a11, b11, h⟩ := Ah h
    refine qi EO HB a11 (Af b11) rfl (qk LS rfl (qa rfl (Ad (Aj Ac rfl (qm rfl (qm rfl (E2 Ly Z7 bI rfl ?_)))))))
    obtain ⟨c12, h⟩ := AD h
    refine ED (f := EI) Ly Ly Z7 aI bI c12 rfl (qa rfl (Ad (Aj Ac rfl (AW rfl (qm rfl (Ad ?_))))))
    exact sn [(2003, 49)] h
   ·refine AV ?_
    exact sn [(2004, 2003)] h
  ·refine Ak hs (As Ac rfl (qm rfl ?_))
   refine Xa v9 (.p rfl) rfl (Xw EI _ _ _) ⟨rfl, tv⟩ rfl cO Y5 ?_
   refine qa rfl (Ad ?_)
   obtain rfl := sj h
   refine Ak (sm [] [(2, pD (.val (.string ((Dh v9)))))] [] rfl rfl) (Ax ?_)
   exact ⟨⟨[_], ⟨.tmp _ _ rfl, tv⟩, rfl⟩, tv⟩
theorem Vh (N : Nat) (p0 : Ae) (r : (List Ai)) (h : Jv N p0 = some r) : Ay Tryz.prog 126 [.e (.agg (Al p0))] [(3, r.map AP)] (oD (.own 0)) := by
 unfold Jv at h
 refine An (n := 54) (rs := [.tmp 2]) Tryz.func126 rfl rfl rfl (A2 rfl) (A2 rfl) rfl fun w0 S0 => ?_
 refine As Ac rfl (qb rfl (qa rfl (Ad (As Ac rfl (qa rfl (Ad (Ap (As Ac rfl (qf BD rfl (ql Bi rfl (AZ AG rfl (qm rfl (Ad ?_)))))))))))))
 refine AB (L := D8 N p0) h (fun v1 => mk [(1, oD (.ptr 1 0)), (3, oD (.own 2001)), (10, pD (.sl (p0.fb.map Aw))), (11, iD ((p0.fb.length : Int))), (12, iD v1.2)] [(1, .box (Al p0)), (2001, .vec 3 (v1.1.map AP))]) (fun v2 => mk [(1, oD (.ptr 1 0)), (3, oD (.own 2002))] [(1, .box (Al p0)), (2002, .vec 3 (v2.map AP))]) (fun _ _ => rfl) ((Bl 3 2005 3 rfl rfl rfl).trans (sm [(2001, 2005)] _ _ rfl rfl)) (fun j1 n1 v1 h => ?_) (fun v2 s h hs => ?_)
 ·unfold D8 at h
  refine As Ac rfl (A0 rfl (Ad (Ap ?_)))
  refine Bd h rfl (fun h => ?_) fun h => ?_
  ·refine Ao (Ap (AL (As Ac rfl (qm rfl ?_))))
   obtain ⟨v4, a4, b4, h⟩ := Ah h
   refine qi AG En a4 (Af b4) rfl (qk CP rfl (qa rfl (qa rfl (Ad (As Ac rfl (qm rfl (qm rfl (Ad ?_))))))))
   refine AB (L := FJ N v1 v4) h (fun v5 => mk [(1, oD (.ptr 1 0)), (3, oD (.own 2003)), (4, iD v1.2), (10, pD (.sl (p0.fb.map Aw))), (11, iD ((p0.fb.length : Int))), (12, iD v1.2), (17, iD v4), (18, iD v5.2)] [(1, .box (Al p0)), (2003, .vec 3 (v5.1.map AP))]) (fun v6 => mk [(1, oD (.ptr 1 0)), (3, oD (.own 2004)), (10, pD (.sl (p0.fb.map Aw))), (11, iD ((p0.fb.length : Int))), (12, iD v1.2)] [(1, .box (Al p0)), (2004, .vec 3 (v6.map AP))]) (fun _ _ => rfl) (sm [(2003, 2001)] _ _ rfl rfl) (fun j5 n5 v5 h => ?_) (fun v6 s h hs => ?_)
   ·unfold FJ at h
    refine As Ac rfl (A0 rfl (Ad (Ap ?_)))
    refine Bd h rfl (fun h => ?_) fun h => ?_
    ·refine Ao (Ap (AL (As Ac rfl (qm rfl (qa rfl (Ad (Aj Ac rfl (qm rfl (qm rfl (qm rfl (Bx I8 Vz rfl (E2 F2 DQ I8 rfl ?_))))))))))))
     obtain ⟨c8, h⟩ := AD h
     refine ED (f := AP) F2 F2 DQ Qz I8 c8 rfl (qa rfl (Ad (Aj Ac rfl (AW rfl (qm rfl (Ad ?_))))))
     exact sn [(2003, 26)] h
    ·refine AV ?_
     exact sn [(2004, 2003)] h
   ·refine Ak hs (Aj Ac rfl (AW rfl (qm rfl (Ad ?_))))
    exact sn [(2001, 2004)] h
  ·refine AV ?_
   exact sn [(2002, 2001)] h
 ·refine Ak hs (Ap (As Ac rfl (qf BD rfl (ql Bi rfl (AZ AG rfl (qm rfl (Ad ?_)))))))
  refine AB (L := CZ N p0) h (fun v9 => mk [(1, oD (.ptr 1 0)), (3, oD (.own 2006)), (31, iD ((p0.fb.length : Int))), (32, iD v9.2)] [(1, .box (Al p0)), (2006, .vec 3 (v9.1.map AP))]) (fun v10 => mk [(1, oD (.ptr 1 0)), (3, oD (.own 2007))] [(1, .box (Al p0)), (2007, .vec 3 (v10.map AP))]) (fun _ _ => rfl) (sm [(2006, 2002)] _ _ rfl rfl) (fun j9 n9 v9 h => ?_) (fun v10 s h hs => ?_)
  ·unfold CZ at h
   refine As Ac rfl (A0 rfl (Ad (Ap ?_)))
   refine Bd h rfl (fun h => ?_) fun h => ?_
   ·refine Ao (Ap (AL (As Ac rfl (qm rfl (qa rfl (Ad (Aj Ac rfl (qm rfl (qm rfl (Bx I8 Vz rfl (E2 F2 DQ I8 rfl ?_)))))))))))
    obtain ⟨c12, h⟩ := AD h
    refine ED (f := AP) F2 F2 DQ Qz I8 c12 rfl (qa rfl (Ad (Aj Ac rfl (AW rfl (qm rfl (Ad ?_))))))
    exact sn [(2006, 39)] h
   ·refine AV ?_
    exact sn [(2007, 2006)] h
  ·refine Ak hs (Ap (As Ac rfl (qf BG rfl (ql Gy rfl (AZ C6 rfl (qm rfl (Ad ?_)))))))
   refine AB (L := BK N p0) h (fun v13 => mk [(3, oD (.own 2008)), (43, iD ((p0.fc.length : Int))), (44, iD v13.2)] [(2008, .vec 3 (v13.1.map AP))]) (fun v14 => mk [(3, oD (.own 2009))] [(2009, .vec 3 (v14.map AP))]) (fun _ _ => rfl) (sm [(2008, 2007)] _ _ rfl rfl) (fun j13 n13 v13 h => ?_) (fun v14 s h hs => ?_)
   ·unfold BK at h
    refine As Ac rfl (A0 rfl (Ad (Ap ?_)))
    refine Bd h rfl (fun h => ?_) fun h => ?_
    ·refine Ao (Ap (AL (As Ac rfl (qm rfl (qa rfl (Ad (Aj Ac rfl (qm rfl (qm rfl (Bx I8 Vz rfl (E2 F2 DQ I8 rfl ?_)))))))))))
     obtain ⟨c16, h⟩ := AD h
     refine ED (f := AP) F2 F2 DQ Qz I8 c16 rfl (qa rfl (Ad (Aj Ac rfl (AW rfl (qm rfl (Ad ?_))))))
     exact sn [(2008, 51)] h
    ·refine AV ?_
     exact sn [(2009, 2008)] h
   ·refine Ak hs (As Ac rfl (qm rfl (qa rfl (Ad ?_))))
    obtain rfl := sj h
    refine Ak (sm [(1000, 2009)] [(2, oD (.own 1000))] [(1000, .vec 3 (v14.map AP))] rfl rfl) (Ax ?_)
    exact ⟨⟨[_], ⟨.tmp _ _ rfl, tv⟩, rfl⟩, ⟨rfl, tv⟩⟩
theorem QK (N : Nat) (p0 : Ag) (r : Ag) (h : HI N p0 = some r) : Ay Tryz.prog 148 [.e (.agg (AR p0))] [(1, r.fd.map Aw), (1, r.fa.map Aw), (1, r.fe.map EI)] (.e (.agg [.own 0, .own 1, .own 2])) := by
 unfold HI at h
 refine An (n := 13) (rs := [.cell 2 64]) Tryz.func148 rfl rfl rfl (A2 rfl) (A2 rfl) rfl fun w0 S0 => ?_
 refine As Ac rfl (qb rfl (qz Fx rfl (Ad (As Ac rfl (qf DY rfl (ql Bi rfl ?_))))))
 obtain ⟨v1, a1, h⟩ := bind_some h
 refine AF [2001] (C4 N p0.fd v1 a1) Tk rfl (qf B8 rfl (ql Bi rfl ?_))
 obtain ⟨v2, a2, h⟩ := bind_some h
 refine AF [2002] (C4 N p0.fa v2 a2) Tk rfl (qf DF rfl (ql II rfl ?_))
 obtain ⟨v3, a3, h⟩ := bind_some h
 refine AF [2003] (GZ N p0.fe v3 a3) ZI rfl (Bx Fx JK rfl (qs Bc rfl (AJ (by kernel_rfl) ?_)))
 obtain rfl := sj h
 refine Ak (sm [(1000, 2001), (1001, 2002), (1002, 2003)] [(2, oD (.ptr 2 0))] [(2, .box [.own 1000, .own 1001, .own 1002]), (1000, .vec 1 (v1.map Aw)), (1001, .vec 1 (v2.map Aw)), (1002, .vec 1 (v3.map EI))] rfl rfl) (Ax ?_)
 exact ⟨⟨[_], ⟨.cellN _ _ _ _ _ _ _ rfl rfl CF Bc rfl rfl (Kj rfl), tv⟩, rfl⟩, ⟨rfl, rfl, rfl, tv⟩⟩
theorem MU (N : Nat) (p0 : Ar) (r : Bool) (h : GX N p0 = some r) : Ay Tryz.prog 156 [.e (.agg (Bt p0))] [] (bD r) := by
 unfold GX at h
 refine An (n := 11) (rs := [.tmp 2]) Tryz.func156 rfl rfl rfl (A2 rfl) (A2 rfl) rfl fun w0 S0 => ?_
 refine As Ac rfl (qb rfl (qa rfl (Ad ?_)))
 refine AU h (fun v1 => mk [(2, bD v1)] []) (fun j1 h => ?_) (fun v1 h => ?_)
 ·refine Aj Ac rfl (qf Hz rfl (ql CP rfl (B5 rfl (qm rfl ?_))))
  refine E1 6 h rfl (fun h => ?_) fun h => ?_
  ·refine qn rfl (qn rfl (qn rfl (qp rfl (qa rfl (Ad ?_)))))
   exact sn [] h
  ·refine qf Hz rfl (ql CP rfl (B5 rfl (qp rfl (qa rfl (Ad ?_)))))
   exact sn [] h
 ·obtain rfl := sj h
  refine Ak (sm [] [(2, bD v1)] [] rfl rfl) (Ax ?_)
  exact ⟨⟨[_], ⟨.tmp _ _ rfl, tv⟩, rfl⟩, tv⟩
theorem SI (N : Nat) (p0 : Ae) (p1 : Ag) (p2 : Ai) (r : Bool × (List Int) × (List Int)) (h : Jg N p0 p1 p2 = some r) : BV Tryz.prog 149 [.e (.agg (Al p0)), oD (.ptr 90000 0), .e (.agg (Ed p2))] [(.box [.own 90001, .own 90002, .own 90003], .box [.own 90001, .own 90002, .own 90003]), (.vec 1 (p1.fd.map Aw), .vec 1 (p1.fd.map Aw)), (.vec 1 (p1.fa.map Aw), .vec 1 (r.2.1.map Aw)), (.vec 1 (p1.fe.map EI), .vec 1 (r.2.2.map EI))] [] (bD r.1) := by
 unfold Jg at h
 refine Bk (n := 70) (rs := [.tmp 6]) Tryz.func149 rfl rfl rfl (A2 rfl) (A2 rfl) rfl rfl (A2 rfl) rfl (A2 rfl) fun w0 S0 GL => ?_
 refine Ak (sm [] [(0, .e (.agg (Al p0))), (1, oD (.ptr 90000 0)), (2, .e (.agg (Ed p2)))] [(90000, .box [.own 90001, .own 90002, .own 90003]), (90001, .vec 1 (p1.fd.map Aw)), (90002, .vec 1 (p1.fa.map Aw)), (90003, .vec 1 (p1.fe.map EI))] rfl rfl) (As Ac rfl (qb rfl (qb rfl (qa rfl (Ad (Ap ?_))))))
 refine AU h (fun v1 => mk [(1, oD (.ptr 90000 0)), (3, oD (.ptr 3 0)), (5, oD (.ptr 5 0)), (30, bD v1)] [(3, .box (Al p0)), (5, .box (Ed p2)), (90000, .box [.own 90001, .own 90002, .own 90003]), (90001, .vec 1 (p1.fd.map Aw)), (90002, .vec 1 (p1.fa.map Aw)), (90003, .vec 1 (p1.fe.map EI))]) (fun j1 h => ?_) (fun v1 h => ?_)
 ·refine Aj Ac rfl (qm rfl (QU rfl (qf B8 rfl (ql Bi rfl (qf Fl rfl (ql CP rfl ?_))))))
  obtain ⟨v2, a2, b2, h⟩ := Ah h
  refine qI AG En a2 (Af b2) rfl (qj CP (Af b2) rfl (Ee rfl (qm rfl ?_)))
  refine E1 18 h rfl (fun h => ?_) fun h => ?_
  ·refine qn rfl (qn rfl (qn rfl (qn rfl (qn rfl (qn rfl (qn rfl (qn rfl (qn rfl (qn rfl (qn rfl (qp rfl (AJ (by kernel_rfl) ?_))))))))))))
   exact sn [] h
  ·refine qm rfl (QU rfl (qf DY rfl (ql Bi rfl (qf Fl rfl (ql CP rfl ?_)))))
   obtain ⟨v4, a4, b4, h⟩ := Ah h
   refine qI AG En a4 (Af b4) rfl (qj CP (Af b4) rfl (qf Hk rfl (ql CP rfl (B5 rfl (qp rfl (AJ (by kernel_rfl) ?_))))))
   exact sn [] h
 ·refine Bd h rfl (fun h => ?_) fun h => ?_
  ·refine As Ac rfl (qa rfl (Ad ?_))
   obtain rfl := sj h
   refine Ak (sm [] [(6, bD false)] [(90000, .box [.own 90001, .own 90002, .own 90003]), (90001, .vec 1 (p1.fd.map Aw)), (90002, .vec 1 (p1.fa.map Aw)), (90003, .vec 1 (p1.fe.map EI))] rfl rfl) (Ax ?_)
   exact ⟨⟨[_], ⟨.tmp _ _ rfl, tv⟩, rfl⟩, ⟨rfl, rfl, rfl, rfl, tv⟩, tv⟩
  ·refine Ao (As Ac rfl (qm rfl (QU rfl (qf B8 rfl (ql Bi rfl (qf Fl rfl (ql CP rfl (qf Hk rfl (ql CP rfl ?_)))))))))
   obtain ⟨v6, a6, b6, h⟩ := Ah h
   refine qI AG En a6 (Af b6) rfl ?_
   refine A9 rfl rfl rfl rfl (Af b6) rfl En rfl (A2 rfl) (A6 Aw p1.fa _ p2.fr) ?_
   refine AJ (by kernel_rfl) (Ap (As Ac rfl (qf BG rfl (ql Gy rfl (AZ C6 rfl (qm rfl (Ad ?_)))))))
   refine AB (L := EW N p0 p2) h (fun v7 => mk [(1, oD (.ptr 90000 0)), (5, oD (.ptr 5 0)), (41, pD (.sl (p0.fc.map AO))), (42, iD ((p0.fc.length : Int))), (43, iD v7.2)] [(5, .box (Ed p2)), (90000, .box [.own 90001, .own 90002, .own 90003]), (90001, .vec 1 (p1.fd.map Aw)), (90002, .vec 1 ((p1.fa.set ((p2.fi).toNat) p2.fr).map Aw)), (90003, .vec 1 (v7.1.map EI))]) (fun v8 => mk [] [(90000, .box [.own 90001, .own 90002, .own 90003]), (90001, .vec 1 (p1.fd.map Aw)), (90002, .vec 1 ((p1.fa.set ((p2.fi).toNat) p2.fr).map Aw)), (90003, .vec 1 (v8.map EI))]) (fun _ _ => rfl) (sm [] _ _ rfl rfl) (fun j7 n7 v7 h => ?_) (fun v8 s h hs => ?_)
   ·unfold EW at h
    refine As Ac rfl (A0 rfl (Ad (Ap ?_)))
    refine Bd h rfl (fun h => ?_) fun h => ?_
    ·refine Ao ?_
     refine AU h (fun v10 => mk [(1, oD (.ptr 90000 0)), (5, oD (.ptr 5 0)), (41, pD (.sl (p0.fc.map AO))), (42, iD ((p0.fc.length : Int))), (43, iD v7.2)] [(5, .box (Ed p2)), (90000, .box [.own 90001, .own 90002, .own 90003]), (90001, .vec 1 (p1.fd.map Aw)), (90002, .vec 1 ((p1.fa.set ((p2.fi).toNat) p2.fr).map Aw)), (90003, .vec 1 (v10.map EI))]) (fun j10 h => ?_) (fun v10 h => ?_)
     ·refine AL (As Ac rfl (qm rfl ?_))
      obtain ⟨v11, a11, b11, h⟩ := Ah h
      refine qi C6 Dq a11 (Af b11) rfl (qK HQ Dq rfl (qz JO rfl (qa rfl (qs Dq rfl (Ad ?_)))))
      refine AU h (fun v12 => mk [(1, oD (.ptr 90000 0)), (5, oD (.ptr 5 0)), (7, iD v7.2), (41, pD (.sl (p0.fc.map AO))), (42, iD ((p0.fc.length : Int))), (43, iD v7.2), (56, bD v12)] [(5, .box (Ed p2)), (90000, .box [.own 90001, .own 90002, .own 90003]), (90001, .vec 1 (p1.fd.map Aw)), (90002, .vec 1 ((p1.fa.set ((p2.fi).toNat) p2.fr).map Aw)), (90003, .vec 1 (v7.1.map EI))]) (fun j12 h => ?_) (fun v12 h => ?_)
      ·refine Aj Ac rfl (qf Em rfl (ql CP rfl (qf Fl rfl (ql CP rfl (B5 rfl (qm rfl ?_))))))
       refine E1 53 h rfl (fun h => ?_) fun h => ?_
       ·refine qL HQ Dq rfl ?_
        obtain ⟨v14, a14, h⟩ := bind_some h
        refine AF [] (MU N v11 v14 a14) Zp rfl (qp rfl (Ad ?_))
        exact sn [] h
       ·refine qn rfl (qn rfl (qp rfl (Ad ?_)))
        exact sn [] h
      ·refine Bd h rfl (fun h => ?_) fun h => ?_
       ·refine Aj Ac rfl (qm rfl (QU rfl (qf DF rfl (ql II rfl (qm rfl ?_)))))
        obtain ⟨v16, a16, b16, h⟩ := Ah h
        refine qI EO HB a16 (Af b16) rfl (qj LS (Af b16) rfl (qf Hk rfl (ql CP rfl ?_)))
        obtain ⟨c17, h⟩ := AD h
        refine Jr rfl c17 (XL rfl ?_)
        obtain ⟨v18, a18, b18, h⟩ := Ah h
        refine qI EO HB a18 (Af b18) rfl ?_
        refine A9 rfl rfl rfl rfl (Af b18) rfl HB rfl (A2 rfl) (A6 EI v7.1 _ ((QF .u8 v16 ((Dp .u8 1 p2.fr))))) ?_
        refine AJ (by kernel_rfl) ?_
        exact sn [] h
       ·refine Ao ?_
        exact sn [] h
     ·refine Aj Ac rfl (AW rfl (qm rfl (Ad ?_)))
      exact sn [] h
    ·refine AV ?_
     exact sn [] h
   ·refine Ak hs (As Ac rfl (qa rfl (Ad ?_)))
    obtain rfl := sj h
    refine Ak (sm [] [(6, bD true)] [(90000, .box [.own 90001, .own 90002, .own 90003]), (90001, .vec 1 (p1.fd.map Aw)), (90002, .vec 1 ((p1.fa.set ((p2.fi).toNat) p2.fr).map Aw)), (90003, .vec 1 (v8.map EI))] rfl rfl) (Ax ?_)
    exact ⟨⟨[_], ⟨.tmp _ _ rfl, tv⟩, rfl⟩, ⟨rfl, rfl, rfl, rfl, tv⟩, tv⟩
theorem Po (N : Nat) (p0 : Ag) (p1 : Int) (r : Int) (h : Hj N p0 p1 = some r) : Ay Tryz.prog 157 [.e (.agg (AR p0)), iD p1] [] (pD (.val (.int .u8 r))) := by
 unfold Hj at h
 refine An (n := 27) (rs := [.tmp 4]) Tryz.func157 rfl rfl rfl (A2 rfl) (A2 rfl) rfl fun w0 S0 => ?_
 refine As Ac rfl (qb rfl (qa rfl (Ad (As Ac rfl (qf DY rfl (ql Bi rfl (qm rfl ?_)))))))
 obtain ⟨v1, a1, b1, h⟩ := Ah h
 refine qi AG En a1 (Af b1) rfl (qk CP rfl ?_)
 obtain ⟨c2, h⟩ := AD h
 refine Jr rfl c2 (qa rfl (Ad ?_))
 refine AU h (fun v3 => mk [(5, pD (.val (.int .u8 v3)))] []) (fun j3 h => ?_) (fun v3 h => ?_)
 ·refine As Ac rfl (qf B8 rfl (ql Bi rfl (qm rfl ?_)))
  obtain ⟨v4, a4, b4, h⟩ := Ah h
  refine qi AG En a4 (Af b4) rfl (qk CP rfl (Ee rfl (Ad ?_)))
  refine Bd h rfl (fun h => ?_) fun h => ?_
  ·refine Aj Ac rfl (qm rfl (qf B8 rfl (ql Bi rfl (qm rfl ?_))))
   obtain ⟨v6, a6, b6, h⟩ := Ah h
   refine qi AG En a6 (Af b6) rfl (qk CP rfl ?_)
   obtain ⟨c7, h⟩ := AD h
   refine Jr rfl c7 (XL rfl (qa rfl (Ad ?_)))
   exact sn [] h
  ·refine Ao ?_
   exact sn [] h
 ·refine As Ac rfl (qm rfl (qa rfl (Ad ?_)))
  obtain rfl := sj h
  refine Ak (sm [] [(4, pD (.val (.int .u8 v3)))] [] rfl rfl) (Ax ?_)
  exact ⟨⟨[_], ⟨.tmp _ _ rfl, tv⟩, rfl⟩, tv⟩
theorem JZ (N : Nat) (p0 : Int) (r : Int) (h : DW N p0 = some r) : Ay Tryz.prog 161 [pD (.val (.int .u8 p0))] [] (iD r) := by
 unfold DW at h
 refine An (n := 6) (rs := [.tmp 2]) Tryz.func161 rfl rfl rfl (A2 rfl) (A2 rfl) rfl fun w0 S0 => ?_
 refine As Ac rfl (qa rfl (Ad (As Ac rfl (qm rfl ?_))))
 obtain ⟨v1, a1, h⟩ := bind_some h
 refine On (.p rfl) rfl rfl Y5 a1 ?_
 refine I3 ZU Yb rfl (qa rfl (Ad ?_))
 obtain rfl := sj h
 refine Ak (sm [] [(2, iD ((wI .i64 v1)))] [] rfl rfl) (Ax ?_)
 exact ⟨⟨[_], ⟨.tmp _ _ rfl, tv⟩, rfl⟩, tv⟩
theorem NK (N : Nat) (p0 : Ar) (p1 : Int) (p2 : Int) (r : Bool) (h : Hf N p0 p1 p2 = some r) : Ay Tryz.prog 158 [.e (.agg (Bt p0)), pD (.val (.int .u8 p1)), iD p2] [] (bD r) := by
 unfold Hf at h
 refine An (n := 25) (rs := [.tmp 6]) Tryz.func158 rfl rfl rfl (A2 rfl) (A2 rfl) rfl fun w0 S0 => ?_
 refine As Ac rfl (qb rfl (qa rfl (Ad (Ap (As Ac rfl (qm rfl (qa rfl (Ad ?_))))))))
 refine AB (L := EB N p0 p2) h (fun v1 => mk [(2, iD p2), (3, oD (.ptr 3 0)), (7, pD (.val (.int .u8 v1)))] [(3, .box (Bt p0))]) (fun v2 => mk [] []) (fun _ _ => rfl) (sm [] _ _ rfl rfl) (fun j1 n1 v1 h => ?_) (fun v2 s h hs => ?_)
 ·unfold EB at h
  refine Ap (As Ac rfl (qm rfl (CU rfl (Ad ?_))))
  refine Bd h rfl (fun h => ?_) fun h => ?_
  ·refine Ao (Ap (AL (As Ac rfl (qf Fh rfl (ql HA rfl (qm rfl ?_))))))
   obtain ⟨v4, a4, h⟩ := bind_some h
   refine AF [] (JZ N v1 v4 a4) bC rfl ?_
   obtain ⟨v5, a5, b5, h⟩ := Ah h
   refine qi D4 IH a5 (Af b5) rfl (qk L9 rfl (qm rfl ?_))
   obtain ⟨v6, a6, b6, h⟩ := Ah h
   refine qi EZ MO a6 (Af b6) rfl (qk Uf rfl (CQ rfl (AJ (by kernel_rfl) ?_)))
   refine Bd h rfl (fun h => ?_) fun h => ?_
   ·refine As Ac rfl (qa rfl (Ad ?_))
    obtain rfl := sj h
    refine Ak (sm [] [(6, bD false)] [] rfl rfl) (Ax ?_)
    exact ⟨⟨[_], ⟨.tmp _ _ rfl, tv⟩, rfl⟩, tv⟩
   ·refine Ao (Aj Ac rfl (qm rfl (qm rfl (Di rfl (Nz rfl (qa rfl (Ad ?_)))))))
    exact sn [] h
  ·refine AV ?_
   exact sn [] h
 ·refine Ak hs (As Ac rfl (qa rfl (Ad ?_)))
  obtain rfl := sj h
  refine Ak (sm [] [(6, bD true)] [] rfl rfl) (Ax ?_)
  exact ⟨⟨[_], ⟨.tmp _ _ rfl, tv⟩, rfl⟩, tv⟩
theorem RT (N : Nat) (p0 : Ae) (p1 : Ag) (p2 : Int) (r : Bool × (List Int)) (h : Ia N p0 p1 p2 = some r) : BV Tryz.prog 150 [.e (.agg (Al p0)), oD (.ptr 90000 0), iD p2] [(.box [.own 90001, .own 90002, .own 90003], .box [.own 90001, .own 90002, .own 90003]), (.vec 1 (p1.fd.map Aw), .vec 1 (p1.fd.map Aw)), (.vec 1 (p1.fa.map Aw), .vec 1 (p1.fa.map Aw)), (.vec 1 (p1.fe.map EI), .vec 1 (r.2.map EI))] [] (bD r.1) := by
 unfold Ia at h
 refine Bk (n := 68) (rs := [.tmp 6]) Tryz.func150 rfl rfl rfl (A2 rfl) (A2 rfl) rfl rfl (A2 rfl) rfl (A2 rfl) fun w0 S0 GL => ?_
 refine Ak (sm [] [(0, .e (.agg (Al p0))), (1, oD (.ptr 90000 0)), (2, iD p2)] [(90000, .box [.own 90001, .own 90002, .own 90003]), (90001, .vec 1 (p1.fd.map Aw)), (90002, .vec 1 (p1.fa.map Aw)), (90003, .vec 1 (p1.fe.map EI))] rfl rfl) (As Ac rfl (qb rfl (qa rfl (Ad (As Ac rfl (qf BG rfl (ql Gy rfl (qm rfl ?_))))))))
 obtain ⟨v1, a1, b1, h⟩ := Ah h
 refine qi C6 Dq a1 (Af b1) rfl (qK HQ Dq rfl (qz JO rfl (qs Dq rfl (Ad (Ap (As Ac rfl (qL HQ Dq rfl ?_)))))))
 obtain ⟨v2, a2, h⟩ := bind_some h
 refine AF [] (MU N v1 v2 a2) Zp rfl (CQ rfl (Ad ?_))
 refine Bd h rfl (fun h => ?_) fun h => ?_
 ·refine As Ac rfl (qa rfl (Ad ?_))
  obtain rfl := sj h
  refine Ak (sm [] [(6, bD false)] [(90000, .box [.own 90001, .own 90002, .own 90003]), (90001, .vec 1 (p1.fd.map Aw)), (90002, .vec 1 (p1.fa.map Aw)), (90003, .vec 1 (p1.fe.map EI))] rfl rfl) (Ax ?_)
  exact ⟨⟨[_], ⟨.tmp _ _ rfl, tv⟩, rfl⟩, ⟨rfl, rfl, rfl, rfl, tv⟩, tv⟩
 ·refine Ao (As Ac rfl (qm rfl (QU rfl (qL CF Bc rfl (qf Em rfl (ql CP rfl ?_))))))
  obtain ⟨v4, a4, h⟩ := bind_some h
  refine Fz [] [90001, 90002, 90003] (Po N p1 v1.fg v4 a4) ca DE rfl (qa rfl (AJ (by kernel_rfl) (As Ac rfl (qm rfl (QU rfl (qf DF rfl (ql II rfl (qm rfl ?_))))))))
  obtain ⟨v5, a5, b5, h⟩ := Ah h
  refine qI EO HB a5 (Af b5) rfl (qj LS (Af b5) rfl (qm rfl (Ke rfl (qa rfl (Ad (Ap ?_))))))
  refine AU h (fun v6 => mk [(1, oD (.ptr 90000 0)), (2, iD p2), (8, pD (.val (.int .u8 v4))), (60, bD v6)] [(90000, .box [.own 90001, .own 90002, .own 90003]), (90001, .vec 1 (p1.fd.map Aw)), (90002, .vec 1 (p1.fa.map Aw)), (90003, .vec 1 (p1.fe.map EI))]) (fun j6 h => ?_) (fun v6 h => ?_)
  ·refine Aj Ac rfl (qm rfl (QU rfl (qf DF rfl (ql II rfl (qm rfl ?_)))))
   obtain ⟨v7, a7, b7, h⟩ := Ah h
   refine qI EO HB a7 (Af b7) rfl (qj LS (Af b7) rfl (qm rfl (B5 rfl (qm rfl ?_))))
   refine E1 42 h rfl (fun h => ?_) fun h => ?_
   ·refine qn rfl (qn rfl (qn rfl (qn rfl (qu rfl (qu rfl (qu rfl (qu rfl (qu rfl (qu rfl (qu rfl (qu rfl (qu rfl (qu rfl (qu rfl (qu rfl (qn rfl (qp rfl (AJ (by kernel_rfl) ?_))))))))))))))))))
    exact sn [] h
   ·refine qf Hz rfl (ql CP rfl (B5 rfl (qm rfl ?_)))
    refine E1 46 h rfl (fun h => ?_) fun h => ?_
    ·refine qL HQ Dq rfl (qm rfl (qm rfl (QU rfl (qf DY rfl (ql Bi rfl (qf Em rfl (ql CP rfl ?_)))))))
     obtain ⟨v10, a10, b10, h⟩ := Ah h
     refine qI AG En a10 (Af b10) rfl (qj CP (Af b10) rfl ?_)
     obtain ⟨v11, a11, h⟩ := bind_some h
     refine AF [] (NK N v1 ((Ei .u8 v5 v4)) v10 v11 a11) bX rfl (CQ rfl (qp rfl (qp rfl (AJ (by kernel_rfl) ?_))))
     exact sn [] h
    ·refine qn rfl (qn rfl (qn rfl (qn rfl (qn rfl (qn rfl (qn rfl (qn rfl (qn rfl (qn rfl (qn rfl (qn rfl (qp rfl (qp rfl (AJ (by kernel_rfl) ?_))))))))))))))
     exact sn [] h
  ·refine Bd h rfl (fun h => ?_) fun h => ?_
   ·refine As Ac rfl (qa rfl (Ad ?_))
    obtain rfl := sj h
    refine Ak (sm [] [(6, bD false)] [(90000, .box [.own 90001, .own 90002, .own 90003]), (90001, .vec 1 (p1.fd.map Aw)), (90002, .vec 1 (p1.fa.map Aw)), (90003, .vec 1 (p1.fe.map EI))] rfl rfl) (Ax ?_)
    exact ⟨⟨[_], ⟨.tmp _ _ rfl, tv⟩, rfl⟩, ⟨rfl, rfl, rfl, rfl, tv⟩, tv⟩
   ·refine Ao (As Ac rfl (qm rfl (QU rfl (qf DF rfl (ql II rfl (qm rfl (qm rfl ?_)))))))
    obtain ⟨v13, a13, b13, h⟩ := Ah h
    refine qI EO HB a13 (Af b13) rfl ?_
    refine A9 rfl rfl rfl rfl (Af b13) rfl HB rfl (A2 rfl) (A6 EI p1.fe _ v4) ?_
    refine Ad (As Ac rfl (qa rfl (Ad ?_)))
    obtain rfl := sj h
    refine Ak (sm [] [(6, bD true)] [(90000, .box [.own 90001, .own 90002, .own 90003]), (90001, .vec 1 (p1.fd.map Aw)), (90002, .vec 1 (p1.fa.map Aw)), (90003, .vec 1 ((p1.fe.set ((p2).toNat) v4).map EI))] rfl rfl) (Ax ?_)
    exact ⟨⟨[_], ⟨.tmp _ _ rfl, tv⟩, rfl⟩, ⟨rfl, rfl, rfl, rfl, tv⟩, tv⟩
theorem NL (N : Nat) (p0 : Ae) (p1 : Ag) (p2 : Ai) (r : Ag × Bool) (h : GK N p0 p1 p2 = some r) : Ay Tryz.prog 128 [.e (.agg (Al p0)), .e (.agg (AR p1)), .e (.agg (Ed p2))] [(1, r.1.fd.map Aw), (1, r.1.fa.map Aw), (1, r.1.fe.map EI)] (.tup [.agg [.own 0, .own 1, .own 2], .one (.pure (.val (.bool r.2)))]) := by
 unfold GK at h
 refine An (n := 51) (rs := [.cell 6 64, .tmp 7]) Tryz.func128 rfl rfl rfl (A2 rfl) (A2 rfl) rfl fun w0 S0 => ?_
 refine As Ac rfl (qb rfl (qb rfl (qb rfl (qz Fx rfl (qa rfl (Ad (As Ac rfl (qL CF Bc rfl ?_))))))))
 obtain ⟨v1, a1, h⟩ := bind_some h
 refine AF [2001, 2002, 2003] (QK N p1 v1 a1) bh rfl (qz Fx rfl (qs Bc rfl (Ad (Ap (As Ac rfl (qf Gk rfl (ql CP rfl (Ad (AL (As Ac rfl (B5 rfl (qa rfl (Ad ?_)))))))))))))
 refine Bd h rfl (fun h => ?_) fun h => ?_
 ·refine As Ac rfl (qL CF Bc rfl (qL D0 CX rfl (qL H3 DQ rfl ?_)))
  obtain ⟨v3, a3, h⟩ := bind_some h
  refine DO (ds0 := [_, _, _]) [8, 2001, 2002, 2003] [] [false, false, true, true] (SI N p0 v1 p2 v3 a3) (.p rfl) cp rfl ⟨rfl, rfl, rfl, tv⟩ rfl rfl (by decide) ⟨rfl, rfl, rfl, rfl, tv⟩ rfl (Bf rfl) tv ⟨(fun _ => rfl), (fun _ => rfl), (fun h => by cases h), (fun h => by cases h), tv⟩ rfl rfl rfl ?_
  refine qs Bc rfl (qa rfl (AJ (by kernel_rfl) ?_))
  obtain rfl := sj h
  refine Ak (sm [(1000, 2001), (1001, 2002), (1002, 2003)] [(6, oD (.ptr 6 0)), (7, bD v3.1)] [(6, .box [.own 1000, .own 1001, .own 1002]), (1000, .vec 1 (v1.fd.map Aw)), (1001, .vec 1 (v3.2.1.map Aw)), (1002, .vec 1 (v3.2.2.map EI))] rfl rfl) (Ax ?_)
  exact ⟨⟨[_, _], ⟨.cellN _ _ _ _ _ _ _ rfl rfl CF Bc rfl rfl (Kj rfl), ⟨.tmp _ _ rfl, tv⟩⟩, rfl⟩, ⟨rfl, rfl, rfl, tv⟩⟩
 ·refine As Ac rfl (B5 rfl (qa rfl (Ad ?_)))
  refine Bd h rfl (fun h => ?_) fun h => ?_
  ·refine As Ac rfl (qL CF Bc rfl (qL D0 CX rfl (qf Fl rfl (ql CP rfl ?_))))
   obtain ⟨v5, a5, h⟩ := bind_some h
   refine DO (ds0 := [_, _, _]) [8, 2001, 2002, 2003] [] [false, false, false, true] (RT N p0 v1 p2.fi v5 a5) (.p rfl) bt rfl ⟨rfl, rfl, rfl, tv⟩ rfl rfl (by decide) ⟨rfl, rfl, rfl, rfl, tv⟩ rfl (Bf rfl) tv ⟨(fun _ => rfl), (fun _ => rfl), (fun _ => rfl), (fun h => by cases h), tv⟩ rfl rfl rfl ?_
   refine qs Bc rfl (qa rfl (AJ (by kernel_rfl) ?_))
   obtain rfl := sj h
   refine Ak (sm [(1000, 2001), (1001, 2002), (1002, 2003)] [(6, oD (.ptr 6 0)), (7, bD v5.1)] [(6, .box [.own 1000, .own 1001, .own 1002]), (1000, .vec 1 (v1.fd.map Aw)), (1001, .vec 1 (v1.fa.map Aw)), (1002, .vec 1 (v5.2.map EI))] rfl rfl) (Ax ?_)
   exact ⟨⟨[_, _], ⟨.cellN _ _ _ _ _ _ _ rfl rfl CF Bc rfl rfl (Kj rfl), ⟨.tmp _ _ rfl, tv⟩⟩, rfl⟩, ⟨rfl, rfl, rfl, tv⟩⟩
  ·refine Ao (As Ac rfl (qf B8 rfl (ql Bi rfl (qf Fl rfl (ql CP rfl ?_)))))
   obtain ⟨v6, a6, b6, h⟩ := Ah h
   refine qI AG En a6 (Af b6) rfl (qj CP (Af b6) rfl (qa rfl (Ad (Ap (As Ac rfl (qm rfl (A0 rfl (Ad ?_))))))))
   refine Bd h rfl (fun h => ?_) fun h => ?_
   ·refine As Ac rfl (qL CF Bc rfl (qs Bc rfl (qa rfl (Ad ?_))))
    obtain rfl := sj h
    refine Ak (sm [(1000, 2001), (1001, 2002), (1002, 2003)] [(6, oD (.ptr 6 0)), (7, bD false)] [(6, .box [.own 1000, .own 1001, .own 1002]), (1000, .vec 1 (v1.fd.map Aw)), (1001, .vec 1 (v1.fa.map Aw)), (1002, .vec 1 (v1.fe.map EI))] rfl rfl) (Ax ?_)
    exact ⟨⟨[_, _], ⟨.cellN _ _ _ _ _ _ _ rfl rfl CF Bc rfl rfl (Kj rfl), ⟨.tmp _ _ rfl, tv⟩⟩, rfl⟩, ⟨rfl, rfl, rfl, tv⟩⟩
   ·refine Ao (As Ac rfl (qf B8 rfl (ql Bi rfl (qf Fl rfl (ql CP rfl ?_)))))
    obtain ⟨v8, a8, b8, h⟩ := Ah h
    refine qI AG En a8 (Af b8) rfl ?_
    refine A9 rfl rfl rfl rfl (Af b8) rfl En rfl (A2 rfl) (A6 Aw v1.fa _ ((-1))) ?_
    refine Ad ?_
    refine AU h (fun v9 => mk [(6, oD (.ptr 6 0)), (8, oD (.ptr 8 0))] [(6, .box [.pure (.nil0), .pure (.nil0), .pure (.nil0)]), (8, .box [.own 2004, .own 2005, .own 2006]), (2004, .vec 1 (v9.map Aw)), (2005, .vec 1 ((v1.fa.set ((p2.fi).toNat) ((-1))).map Aw)), (2006, .vec 1 (v1.fe.map EI))]) (fun j9 h => ?_) (fun v9 h => ?_)
    ·refine As Ac rfl (qf Gk rfl (ql CP rfl (B5 rfl (Ad ?_))))
     refine Bd h rfl (fun h => ?_) fun h => ?_
     ·refine Aj Ac rfl (qf DY rfl (ql Bi rfl (qf Fl rfl (ql CP rfl (qm rfl ?_)))))
      obtain ⟨v11, a11, b11, h⟩ := Ah h
      refine qI AG En a11 (Af b11) rfl ?_
      refine A9 rfl rfl rfl rfl (Af b11) rfl En rfl (A2 rfl) (A6 Aw v1.fd _ v6) ?_
      refine Ad ?_
      exact sn [(2004, 2001), (2005, 2002), (2006, 2003)] h
     ·refine Ao ?_
      exact sn [(2004, 2001), (2005, 2002), (2006, 2003)] h
    ·refine As Ac rfl (qL CF Bc rfl (qs Bc rfl (qa rfl (Ad ?_))))
     obtain rfl := sj h
     refine Ak (sm [(1000, 2004), (1001, 2005), (1002, 2006)] [(6, oD (.ptr 6 0)), (7, bD true)] [(6, .box [.own 1000, .own 1001, .own 1002]), (1000, .vec 1 (v9.map Aw)), (1001, .vec 1 ((v1.fa.set ((p2.fi).toNat) ((-1))).map Aw)), (1002, .vec 1 (v1.fe.map EI))] rfl rfl) (Ax ?_)
     exact ⟨⟨[_, _], ⟨.cellN _ _ _ _ _ _ _ rfl rfl CF Bc rfl rfl (Kj rfl), ⟨.tmp _ _ rfl, tv⟩⟩, rfl⟩, ⟨rfl, rfl, rfl, tv⟩⟩
theorem Ol (N : Nat) (p0 : Ai) (p1 : List Int) (p2 : List Int) (p3 : List Int) (p4 : List Ar) (p5 : List Int) (p6 : List Int) (p7 : List Int) (r : Bool) (h : Ex N p0 p1 p2 p3 p4 p5 p6 p7 = some r) : Ay Tryz.prog 127 [.e (.agg (Ed p0)), oD (.rop [.sl (p1.map Aw), .sl (p2.map Aw), .sl (p3.map Aw), .sl (p4.map AO)]), oD (.rop [.sl (p5.map Aw), .sl (p6.map Aw), .sl (p7.map EI)])] [] (bD r) := by
 unfold Ex at h
 refine An (n := 16) (rs := [.tmp 4]) Tryz.func127 rfl rfl rfl (A2 rfl) (A2 rfl) rfl fun w0 S0 => ?_
 refine As Ac rfl (qb rfl (qa rfl (Ad (As Ac rfl (qK D0 CX rfl (qK CF Bc rfl (qL H3 DQ rfl ?_)))))))
 obtain ⟨v1, a1, h⟩ := bind_some h
 refine AF [2001, 2002, 2003] (NL N ((Ae.mk p1 p2 p3 p4)) ((Ag.mk p5 p6 p7)) p0 v1 a1) ZF rfl (qm rfl (qx rfl (qx rfl (qz Fx rfl (qs Bc rfl (qa rfl (Ad (As Ac rfl (qm rfl (CQ rfl (qa rfl (Ad ?_))))))))))))
 obtain rfl := sj h
 refine Ak (sm [] [(4, bD ((!v1.2)))] [] rfl rfl) (Ax ?_)
 exact ⟨⟨[_], ⟨.tmp _ _ rfl, tv⟩, rfl⟩, tv⟩
theorem H4 (N : Nat) (p0 : List Ai) (p1 : Ai → Option Bool) (r : Int) (h : Cc N p0 p1 = some r) : Ay Tryz.prog 147 [pD (.sl (p0.map AP)), oD (.clo (Cy (O7 true AP) tB p1))] [] (iD r) := by
 unfold Cc at h
 refine An (n := 19) (rs := [.tmp 4]) Tryz.func147 rfl rfl rfl (A2 rfl) (A2 rfl) rfl fun w0 S0 => ?_
 refine As Ac rfl (qa rfl (Ad (Ap (As Ac rfl (qm rfl (AZ F2 rfl (qm rfl (Ad ?_))))))))
 refine AB (L := Bb N p0 p1) h (fun v1 => mk [(0, pD (.sl (p0.map AP))), (1, oD (.clo (Cy (O7 true AP) tB p1))), (7, iD ((p0.length : Int))), (8, iD v1)] []) (fun v2 => mk [] []) (fun _ _ => rfl) (sm [] _ _ rfl rfl) (fun j1 n1 v1 h => ?_) (fun v2 s h hs => ?_)
 ·unfold Bb at h
  refine As Ac rfl (A0 rfl (Ad (Ap ?_)))
  refine Bd h rfl (fun h => ?_) fun h => ?_
  ·refine Ao (Ap (AL (As Ac rfl (qm rfl (qa rfl (Ad (As Ac rfl (qm rfl (qm rfl (qm rfl ?_))))))))))
   obtain ⟨v4, a4, b4, h⟩ := Ah h
   refine qi F2 DQ a4 (Af b4) rfl (qK H3 DQ rfl ?_)
   obtain ⟨v5, a5, h⟩ := bind_some h
   refine F6 (ds0 := [_]) (ar := (O7 true AP) v4) (.p rfl) rfl rfl ⟨rfl, tv⟩ rfl rfl rfl (F3 (N7 _ _ Qa) a5) ?_
   refine Ad ?_
   refine Bd h rfl (fun h => ?_) fun h => ?_
   ·refine As Ac rfl (qm rfl (qa rfl (Ad ?_)))
    obtain rfl := sj h
    refine Ak (sm [] [(4, iD v1)] [] rfl rfl) (Ax ?_)
    exact ⟨⟨[_], ⟨.tmp _ _ rfl, tv⟩, rfl⟩, tv⟩
   ·refine Ao (Aj Ac rfl (AW rfl (qm rfl (Ad ?_))))
    exact sn [] h
  ·refine AV ?_
   exact sn [] h
 ·refine Ak hs (As Ac rfl (qa rfl (Ad ?_)))
  obtain rfl := sj h
  refine Ak (sm [] [(4, iD ((-1)))] [] rfl rfl) (Ax ?_)
  exact ⟨⟨[_], ⟨.tmp _ _ rfl, tv⟩, rfl⟩, tv⟩
theorem HU (N : Nat) (p0 : List Ai) (p1 : Ai → Option Bool) (r : Nat × (List Ai)) (h : B6 N p0 p1 = some r) : BV Tryz.prog 125 [oD (.own 90000), oD (.clo (Cy (O7 true AP) tB p1))] [(.vec 3 (p0.map AP), .vec 3 (r.2.map AP))] [] (oD (.view 90000 3 0 r.1)) := by
 unfold B6 at h
 refine Bk (n := 42) (rs := [.tmp 4]) Tryz.func125 rfl rfl rfl (A2 rfl) (A2 rfl) rfl rfl (A2 rfl) rfl (A2 rfl) fun w0 S0 GL => ?_
 refine Ak (sm [] [(0, oD (.own 90000)), (1, oD (.clo (Cy (O7 true AP) tB p1)))] [(90000, .vec 3 (p0.map AP))] rfl rfl) (As Ac rfl (qa rfl (Ad (As Ac rfl (qm rfl (qm rfl ?_))))))
 obtain ⟨v1, a1, h⟩ := bind_some h
 refine Fz [] [90000] (H4 N p0 p1 v1 a1) cK DE rfl (qa rfl (Ad (Ap (As Ac rfl (qm rfl (B5 rfl (Ad ?_)))))))
 refine Bd h rfl (fun h => ?_) fun h => ?_
 ·refine As Ac rfl (qm rfl (qa rfl (Ad ?_)))
  obtain rfl := sj h
  refine Ak ((Pk AP p0 4 90000 3 rfl rfl).trans (sm [] [(4, oD (.view 90000 3 0 p0.length))] [(90000, .vec 3 (p0.map AP))] rfl rfl)) (Ax ?_)
  exact ⟨⟨[_], ⟨.tmp _ _ rfl, tv⟩, rfl⟩, ⟨rfl, tv⟩, tv⟩
 ·refine Ao (Ap (As Ac rfl (qm rfl (AW rfl (qa rfl (Ad ?_))))))
  refine AB (L := A4 N p1) h (fun v3 => mk [(0, oD (.own 90000)), (1, oD (.clo (Cy (O7 true AP) tB p1))), (5, iD v3.2.1), (6, iD v3.2.2)] [(90000, .vec 3 (v3.1.map AP))]) (fun v4 => mk [(0, oD (.own 90000)), (5, iD v4.2)] [(90000, .vec 3 (v4.1.map AP))]) (fun _ _ => rfl) (sm [] _ _ rfl rfl) (fun j3 n3 v3 h => ?_) (fun v4 s h hs => ?_)
  ·unfold A4 at h
   refine Ap (As Ac rfl (qm rfl (qm rfl (D9 F2 rfl (A0 rfl (Ad ?_))))))
   refine Bd h rfl (fun h => ?_) fun h => ?_
   ·refine Ao ?_
    refine AU h (fun v6 => mk [(0, oD (.own 90000)), (1, oD (.clo (Cy (O7 true AP) tB p1))), (5, iD v6.2), (6, iD v3.2.2)] [(90000, .vec 3 (v6.1.map AP))]) (fun j6 h => ?_) (fun v6 h => ?_)
    ·refine AL (As Ac rfl (qm rfl (qm rfl ?_)))
     obtain ⟨v7, a7, b7, h⟩ := Ah h
     refine qI F2 DQ a7 (Af b7) rfl (qJ H3 DQ (Af b7) rfl (qz I8 rfl (qs DQ rfl (Ad (As Ac rfl (qm rfl (qL H3 DQ rfl ?_)))))))
     obtain ⟨v8, a8, h⟩ := bind_some h
     refine F6 (ds0 := [_]) (ar := (O7 true AP) v7) (.p rfl) rfl rfl ⟨rfl, tv⟩ rfl rfl rfl (F3 (N7 _ _ Qa) a8) ?_
     refine CQ rfl (Ad ?_)
     refine Bd h rfl (fun h => ?_) fun h => ?_
     ·refine As Ac rfl (qm rfl (qm rfl (qL H3 DQ rfl ?_)))
      obtain ⟨v10, a10, b10, h⟩ := Ah h
      refine qI F2 DQ a10 (Af b10) rfl ?_
      refine A9 rfl rfl rfl rfl (Af b10) rfl DQ rfl (A2 rfl) (A6 AP v3.1 _ v7) ?_
      refine Ad (Aj Ac rfl (qm rfl (AW rfl (qa rfl (Ad ?_)))))
      exact sn [] h
     ·refine Ao ?_
      exact sn [] h
    ·refine Aj Ac rfl (qm rfl (AW rfl (qa rfl (Ad ?_))))
     exact sn [] h
   ·refine AV ?_
    exact sn [] h
  ·refine Ak hs (As Ac rfl (qm rfl (qm rfl ?_)))
   obtain ⟨c11, h⟩ := AD h
   have w12 : ((v4.2).toNat) + ((v4.1.length - (v4.2).toNat)) ≤ v4.1.length := by have := c11.2.1; have := c11.2.2; omega
   refine Id AP v4.1 (.p rfl) rfl (If AP _ _ v4.1) rfl F2 DQ (.some _ _ _ _ c11.1) (.none _) ⟨rfl, tv⟩ tv c11.2.1 (by rw [Nat.zero_add]; exact c11.2.2) (Nat.zero_add _) rfl ?_
   have w13 : (HC v4.1 ((v4.2).toNat) (List.replicate ((v4.1.length - (v4.2).toNat)) ((Ai.mk 0 0 0)))).length = v4.1.length := Iu (by rw [List.length_replicate]; exact w12)
   refine Py AP v4.1 ((Ai.mk 0 0 0)) rfl rfl (JR AP _ _ ((v4.2).toNat) ((v4.1.length - (v4.2).toNat)) v4.1 w12) rfl F2 I8 rfl rfl rfl rfl ?_
   refine Ad (As Ac rfl (qm rfl (qm rfl ?_)))
   obtain ⟨c14, h⟩ := AD h
   have w15 : 0 + ((v4.2).toNat) ≤ (HC v4.1 ((v4.2).toNat) (List.replicate ((v4.1.length - (v4.2).toNat)) ((Ai.mk 0 0 0)))).length := by have := c14.2.1; have := c14.2.2; omega
   refine Id AP (HC v4.1 ((v4.2).toNat) (List.replicate ((v4.1.length - (v4.2).toNat)) ((Ai.mk 0 0 0)))) (.p rfl) rfl (If AP _ _ (HC v4.1 ((v4.2).toNat) (List.replicate ((v4.1.length - (v4.2).toNat)) ((Ai.mk 0 0 0))))) rfl F2 DQ (.none _) (.some _ _ _ _ c14.1) tv ⟨rfl, tv⟩ c14.2.1 (by rw [Nat.zero_add]; exact c14.2.2) (Nat.zero_add _) rfl ?_
   refine qa rfl (Ad ?_)
   obtain rfl := sj h
   refine Ak (sm [] [(4, oD (.view 90000 3 0 ((v4.2).toNat)))] [(90000, .vec 3 ((HC v4.1 ((v4.2).toNat) (List.replicate ((v4.1.length - (v4.2).toNat)) ((Ai.mk 0 0 0)))).map AP))] rfl rfl) (Ax ?_)
   exact ⟨⟨[_], ⟨.tmp _ _ rfl, tv⟩, rfl⟩, ⟨rfl, tv⟩, tv⟩
theorem PB (N : Nat) (p0 : Ae) (p1 : Ag) (r : (List Ai) × Int) (h : Hl N p0 p1 = some r) : Ay Tryz.prog 89 [.e (.agg (Al p0)), .e (.agg (AR p1))] [(3, r.1.map AP)] (.tup [.one (.own 0), .one (iC r.2)]) := by
 unfold Hl at h
 refine An (n := 17) (rs := [.tmp 4, .tmp 5]) Tryz.func89 rfl rfl rfl (A2 rfl) (A2 rfl) rfl fun w0 S0 => ?_
 refine As Ac rfl (qb rfl (qb rfl (qa rfl (qa rfl (Ad (Ap (As Ac rfl (qL D0 CX rfl (qL CF Bc rfl ?_)))))))))
 obtain ⟨v1, a1, h⟩ := bind_some h
 refine AF [] (Ks N p0 p1 v1 a1) Zg rfl (qa rfl (Ad (As Ac rfl (qm rfl (CU rfl (Ad ?_))))))
 refine Bd h rfl (fun h => ?_) fun h => ?_
 ·refine As Ac rfl (qm rfl (qa rfl (qa rfl (Ad ?_))))
  obtain rfl := sj h
  refine Ak ((Bl 4 2001 3 rfl rfl rfl).trans (sm [(1000, 2001)] [(4, oD (.own 1000)), (5, iD v1)] [(1000, .vec 3 ((([] : List Ai)).map AP))] rfl rfl)) (Ax ?_)
  exact ⟨⟨[_, _], ⟨.tmp _ _ rfl, ⟨.tmp _ _ rfl, tv⟩⟩, rfl⟩, ⟨rfl, tv⟩⟩
 ·refine Ao (As Ac rfl (qL D0 CX rfl ?_))
  obtain ⟨v3, a3, h⟩ := bind_some h
  refine AF [2002] (Vh N p0 v3 a3) bT rfl (E0 (NS 2 [.sl (p0.fb.map Aw), .sl (p0.fh.map Aw), .sl (p0.fo.map Aw), .sl (p0.fc.map AO)] rfl rfl) (E0 (NS 3 [.sl (p1.fd.map Aw), .sl (p1.fa.map Aw), .sl (p1.fe.map EI)] rfl rfl) ?_))
  refine Ng (capD := [_, _]) (Cy (O7 true AP) tB ((fun (x : Ai) => Ex N x p0.fb p0.fh p0.fo p0.fc p1.fd p1.fa p1.fe))) (.p rfl) cd rfl ⟨rfl, rfl, tv⟩ rfl (fun ar t ht => by obtain ⟨x, r, rfl, hq, rfl⟩ := KT ht; exact Ol N x p0.fb p0.fh p0.fo p0.fc p1.fd p1.fa p1.fe r hq) ?_
  obtain ⟨v4, a4, h⟩ := bind_some h
  obtain ⟨c5, h⟩ := AD h
  have w6 : 0 + v4.1 ≤ v4.2.length := by rw [Nat.zero_add]; exact c5
  refine DO (ds0 := [_, _]) [2002] [] [true] (HU N v3 ((fun (x : Ai) => Ex N x p0.fb p0.fh p0.fo p0.fc p1.fd p1.fa p1.fe)) v4 a4) (.p rfl) bP rfl ⟨rfl, rfl, tv⟩ rfl rfl (by decide) ⟨rfl, tv⟩ rfl (Bf rfl) tv ⟨(fun h => by cases h), tv⟩ rfl rfl rfl ?_
  refine E0 (XE AP v4.2 16 2002 2003 3 v4.1 rfl rfl rfl rfl rfl c5) (qa rfl (qa rfl (Ad ?_)))
  obtain rfl := sj h
  refine Ak (sm [(1000, 2003)] [(4, oD (.own 1000)), (5, iD 0)] [(1000, .vec 3 ((v4.2.take v4.1).map AP))] rfl rfl) (Ax ?_)
  exact ⟨⟨[_, _], ⟨.tmp _ _ rfl, ⟨.tmp _ _ rfl, tv⟩⟩, rfl⟩, ⟨rfl, tv⟩⟩
theorem SA (N : Nat) (p0 : Ai) (r : Bool) (h : Ih N p0 = some r) : Ay Tryz.prog 151 [.e (.agg (Ed p0))] [] (bD r) := by
 unfold Ih at h
 refine An (n := 27) (rs := [.tmp 2]) Tryz.func151 rfl rfl rfl (A2 rfl) (A2 rfl) rfl fun w0 S0 => ?_
 refine As Ac rfl (qb rfl (qa rfl (Ad (Ap ?_))))
 refine AU h (fun v1 => mk [(1, oD (.ptr 1 0)), (18, bD v1)] [(1, .box (Ed p0))]) (fun j1 h => ?_) (fun v1 h => ?_)
 ·refine Aj Ac rfl (qf Fl rfl (ql CP rfl (qf Hk rfl (ql CP rfl ?_))))
  refine cW (.p rfl) rfl rfl ?_
  refine A0 rfl (qm rfl ?_)
  refine E1 9 h rfl (fun h => ?_) fun h => ?_
  ·refine qn rfl (qn rfl (qn rfl (qp rfl (qm rfl (qn rfl (qn rfl (qn rfl (qp rfl (Ad ?_)))))))))
   exact sn [] h
  ·refine qf Gk rfl (ql CP rfl (A0 rfl (qp rfl (qm rfl ?_))))
   refine E1 14 h rfl (fun h => ?_) fun h => ?_
   ·refine qn rfl (qn rfl (qn rfl (qp rfl (Ad ?_))))
    exact sn [] h
   ·refine qf Gk rfl (ql CP rfl (Gt rfl (qp rfl (Ad ?_))))
    exact sn [] h
 ·refine Bd h rfl (fun h => ?_) fun h => ?_
  ·refine As Ac rfl (qa rfl (Ad ?_))
   obtain rfl := sj h
   refine Ak (sm [] [(2, bD false)] [] rfl rfl) (Ax ?_)
   exact ⟨⟨[_], ⟨.tmp _ _ rfl, tv⟩, rfl⟩, tv⟩
  ·refine Ao ?_
   refine AU h (fun v5 => mk [(2, bD v5)] []) (fun j5 h => ?_) (fun v5 h => ?_)
   ·refine Aj Ac rfl (qf Gk rfl (ql CP rfl (B5 rfl (qm rfl ?_))))
    refine E1 22 h rfl (fun h => ?_) fun h => ?_
    ·refine qn rfl (qn rfl (qn rfl (qp rfl (qa rfl (Ad ?_)))))
     exact sn [] h
    ·refine qf Hk rfl (ql CP rfl (B5 rfl (qp rfl (qa rfl (Ad ?_)))))
     exact sn [] h
   ·obtain rfl := sj h
    refine Ak (sm [] [(2, bD v5)] [] rfl rfl) (Ax ?_)
    exact ⟨⟨[_], ⟨.tmp _ _ rfl, tv⟩, rfl⟩, tv⟩
theorem QG (N : Nat) (p0 : Ae) (p1 : Ai) (r : Bool) (h : HJ N p0 p1 = some r) : Ay Tryz.prog 152 [.e (.agg (Al p0)), .e (.agg (Ed p1))] [] (bD r) := by
 unfold HJ at h
 refine An (n := 36) (rs := [.tmp 4]) Tryz.func152 rfl rfl rfl (A2 rfl) (A2 rfl) rfl fun w0 S0 => ?_
 refine As Ac rfl (qb rfl (qb rfl (qa rfl (Ad (Ap (As Ac rfl (qf Gk rfl (ql CP rfl (B5 rfl (Ad ?_))))))))))
 refine Bd h rfl (fun h => ?_) fun h => ?_
 ·refine As Ac rfl (qf Fl rfl (ql CP rfl (qf BG rfl (ql Gy rfl (AZ C6 rfl (A0 rfl (qa rfl (Ad ?_))))))))
  obtain rfl := sj h
  refine Ak (sm [] [(4, bD ((decide (p1.fi < (p0.fc.length : Int)))))] [] rfl rfl) (Ax ?_)
  exact ⟨⟨[_], ⟨.tmp _ _ rfl, tv⟩, rfl⟩, tv⟩
 ·refine Ao ?_
  refine AU h (fun v2 => mk [(4, bD v2)] []) (fun j2 h => ?_) (fun v2 h => ?_)
  ·refine Aj Ac rfl (qf Fl rfl (ql CP rfl (qf BD rfl (ql Bi rfl (AZ AG rfl (A0 rfl (qm rfl ?_)))))))
   refine E1 20 h rfl (fun h => ?_) fun h => ?_
   ·refine qf Gk rfl (ql CP rfl (CU rfl (qm rfl ?_)))
    refine E1 24 h rfl (fun h => ?_) fun h => ?_
    ·refine qn rfl (qn rfl (qn rfl (qn rfl (qn rfl (qn rfl (qn rfl (qn rfl (qn rfl (qp rfl (qp rfl (qa rfl (AJ (by kernel_rfl) ?_))))))))))))
     exact sn [] h
    ·refine qf Hk rfl (ql CP rfl (qf BD rfl (ql Bi rfl (qf Fl rfl (ql CP rfl ?_)))))
     obtain ⟨v5, a5, b5, h⟩ := Ah h
     refine qi AG En a5 (Af b5) rfl (qk CP rfl (A0 rfl (qp rfl (qp rfl (qa rfl (AJ (by kernel_rfl) ?_))))))
     exact sn [] h
   ·refine qn rfl (qn rfl (qn rfl (qn rfl (qu rfl (qu rfl (qu rfl (qu rfl (qu rfl (qu rfl (qu rfl (qu rfl (qu rfl (qn rfl (qp rfl (qa rfl (AJ (by kernel_rfl) ?_))))))))))))))))
    exact sn [] h
  ·obtain rfl := sj h
   refine Ak (sm [] [(4, bD v2)] [] rfl rfl) (Ax ?_)
   exact ⟨⟨[_], ⟨.tmp _ _ rfl, tv⟩, rfl⟩, tv⟩
theorem Sd (N : Nat) (p0 : Ae) (p1 : Ag) (p2 : Ai) (r : Ag × Int) (h : Ik N p0 p1 p2 = some r) : Ay Tryz.prog 129 [.e (.agg (Al p0)), .e (.agg (AR p1)), .e (.agg (Ed p2))] [(1, r.1.fd.map Aw), (1, r.1.fa.map Aw), (1, r.1.fe.map EI)] (.tup [.agg [.own 0, .own 1, .own 2], .one (iC r.2)]) := by
 unfold Ik at h
 refine An (n := 32) (rs := [.cell 6 64, .tmp 7]) Tryz.func129 rfl rfl rfl (A2 rfl) (A2 rfl) rfl fun w0 S0 => ?_
 refine As Ac rfl (qb rfl (qb rfl (qb rfl (qz Fx rfl (qa rfl (Ad (Ap (AL (As Ac rfl (qL H3 DQ rfl ?_))))))))))
 obtain ⟨v1, a1, h⟩ := bind_some h
 refine AF [] (SA N p2 v1 a1) cu rfl (CQ rfl (qa rfl (Ad ?_)))
 refine Bd h rfl (fun h => ?_) fun h => ?_
 ·refine As Ac rfl (Bx Fx JK rfl (qs Bc rfl (qa rfl (Ad ?_))))
  obtain rfl := sj h
  refine Ak ((AA 6 0 2001 1 _ rfl rfl rfl rfl).trans ((AA 6 1 2002 1 _ rfl rfl rfl rfl).trans ((AA 6 2 2003 1 _ rfl rfl rfl rfl).trans (sm [(1000, 2001), (1001, 2002), (1002, 2003)] [(6, oD (.ptr 6 0)), (7, iD 1)] [(6, .box [.own 1000, .own 1001, .own 1002]), (1000, .vec 1 ((([] : List Int)).map Aw)), (1001, .vec 1 ((([] : List Int)).map Aw)), (1002, .vec 1 ((([] : List Int)).map EI))] rfl rfl)))) (Ax ?_)
  exact ⟨⟨[_, _], ⟨.cellN _ _ _ _ _ _ _ rfl rfl CF Bc rfl rfl (Kj rfl), ⟨.tmp _ _ rfl, tv⟩⟩, rfl⟩, ⟨rfl, rfl, rfl, tv⟩⟩
 ·refine As Ac rfl (qL D0 CX rfl (qL H3 DQ rfl ?_))
  obtain ⟨v3, a3, h⟩ := bind_some h
  refine AF [] (QG N p0 p2 v3 a3) bA rfl (CQ rfl (qa rfl (Ad ?_)))
  refine Bd h rfl (fun h => ?_) fun h => ?_
  ·refine As Ac rfl (Bx Fx JK rfl (qs Bc rfl (qa rfl (Ad ?_))))
   obtain rfl := sj h
   refine Ak ((AA 6 0 2004 1 _ rfl rfl rfl rfl).trans ((AA 6 1 2005 1 _ rfl rfl rfl rfl).trans ((AA 6 2 2006 1 _ rfl rfl rfl rfl).trans (sm [(1000, 2004), (1001, 2005), (1002, 2006)] [(6, oD (.ptr 6 0)), (7, iD 4)] [(6, .box [.own 1000, .own 1001, .own 1002]), (1000, .vec 1 ((([] : List Int)).map Aw)), (1001, .vec 1 ((([] : List Int)).map Aw)), (1002, .vec 1 ((([] : List Int)).map EI))] rfl rfl)))) (Ax ?_)
   exact ⟨⟨[_, _], ⟨.cellN _ _ _ _ _ _ _ rfl rfl CF Bc rfl rfl (Kj rfl), ⟨.tmp _ _ rfl, tv⟩⟩, rfl⟩, ⟨rfl, rfl, rfl, tv⟩⟩
  ·refine Ao (As Ac rfl (qL D0 CX rfl (qL CF Bc rfl (qL H3 DQ rfl ?_))))
   obtain ⟨v5, a5, h⟩ := bind_some h
   refine AF [2007, 2008, 2009] (NL N p0 p1 p2 v5 a5) ZF rfl (qm rfl (qx rfl (qx rfl (qz Fx rfl (qs Bc rfl (qa rfl (Ad (Ap (As Ac rfl (qm rfl (CQ rfl (Ad ?_))))))))))))
   refine Bd h rfl (fun h => ?_) fun h => ?_
   ·refine As Ac rfl (Bx Fx JK rfl (qs Bc rfl (qa rfl (Ad ?_))))
    obtain rfl := sj h
    refine Ak ((AA 6 0 2010 1 _ rfl rfl rfl rfl).trans ((AA 6 1 2011 1 _ rfl rfl rfl rfl).trans ((AA 6 2 2012 1 _ rfl rfl rfl rfl).trans (sm [(1000, 2010), (1001, 2011), (1002, 2012)] [(6, oD (.ptr 6 0)), (7, iD 11)] [(6, .box [.own 1000, .own 1001, .own 1002]), (1000, .vec 1 ((([] : List Int)).map Aw)), (1001, .vec 1 ((([] : List Int)).map Aw)), (1002, .vec 1 ((([] : List Int)).map EI))] rfl rfl)))) (Ax ?_)
    exact ⟨⟨[_, _], ⟨.cellN _ _ _ _ _ _ _ rfl rfl CF Bc rfl rfl (Kj rfl), ⟨.tmp _ _ rfl, tv⟩⟩, rfl⟩, ⟨rfl, rfl, rfl, tv⟩⟩
   ·refine Ao (As Ac rfl (qL CF Bc rfl (qs Bc rfl (qa rfl (Ad ?_)))))
    obtain rfl := sj h
    refine Ak (sm [(1000, 2007), (1001, 2008), (1002, 2009)] [(6, oD (.ptr 6 0)), (7, iD 0)] [(6, .box [.own 1000, .own 1001, .own 1002]), (1000, .vec 1 (v5.1.fd.map Aw)), (1001, .vec 1 (v5.1.fa.map Aw)), (1002, .vec 1 (v5.1.fe.map EI))] rfl rfl) (Ax ?_)
    exact ⟨⟨[_, _], ⟨.cellN _ _ _ _ _ _ _ rfl rfl CF Bc rfl rfl (Kj rfl), ⟨.tmp _ _ rfl, tv⟩⟩, rfl⟩, ⟨rfl, rfl, rfl, tv⟩⟩
theorem Sb (N : Nat) (p0 : Ae) (p1 : Ag) (p2 : Ai) (r : Ag × Int) (h : Ic N p0 p1 p2 = some r) : Ay Tryz.prog 90 [.e (.agg (Al p0)), .e (.agg (AR p1)), .e (.agg (Ed p2))] [(1, r.1.fd.map Aw), (1, r.1.fa.map Aw), (1, r.1.fe.map EI)] (.tup [.agg [.own 0, .own 1, .own 2], .one (iC r.2)]) := by
 unfold Ic at h
 refine An (n := 22) (rs := [.cell 6 64, .tmp 7]) Tryz.func90 rfl rfl rfl (A2 rfl) (A2 rfl) rfl fun w0 S0 => ?_
 refine As Ac rfl (qb rfl (qb rfl (qb rfl (qz Fx rfl (qa rfl (Ad (Ap (As Ac rfl (qL D0 CX rfl (qL CF Bc rfl ?_))))))))))
 obtain ⟨v1, a1, h⟩ := bind_some h
 refine AF [] (Ks N p0 p1 v1 a1) Zg rfl (qa rfl (Ad (As Ac rfl (qm rfl (CU rfl (Ad ?_))))))
 refine Bd h rfl (fun h => ?_) fun h => ?_
 ·refine As Ac rfl (Bx Fx JK rfl (qm rfl (qs Bc rfl (qa rfl (Ad ?_)))))
  obtain rfl := sj h
  refine Ak ((AA 6 0 2001 1 _ rfl rfl rfl rfl).trans ((AA 6 1 2002 1 _ rfl rfl rfl rfl).trans ((AA 6 2 2003 1 _ rfl rfl rfl rfl).trans (sm [(1000, 2001), (1001, 2002), (1002, 2003)] [(6, oD (.ptr 6 0)), (7, iD v1)] [(6, .box [.own 1000, .own 1001, .own 1002]), (1000, .vec 1 ((([] : List Int)).map Aw)), (1001, .vec 1 ((([] : List Int)).map Aw)), (1002, .vec 1 ((([] : List Int)).map EI))] rfl rfl)))) (Ax ?_)
  exact ⟨⟨[_, _], ⟨.cellN _ _ _ _ _ _ _ rfl rfl CF Bc rfl rfl (Kj rfl), ⟨.tmp _ _ rfl, tv⟩⟩, rfl⟩, ⟨rfl, rfl, rfl, tv⟩⟩
 ·refine Ao (As Ac rfl (qL D0 CX rfl (qL CF Bc rfl (qL H3 DQ rfl ?_))))
  obtain ⟨v3, a3, h⟩ := bind_some h
  refine AF [2004, 2005, 2006] (Sd N p0 p1 p2 v3 a3) bq rfl (qx rfl (qx rfl (qs Bc rfl (qa rfl (Ad ?_)))))
  obtain rfl := sj h
  refine Ak (sm [(1000, 2004), (1001, 2005), (1002, 2006)] [(6, oD (.ptr 6 0)), (7, iD v3.2)] [(6, .box [.own 1000, .own 1001, .own 1002]), (1000, .vec 1 (v3.1.fd.map Aw)), (1001, .vec 1 (v3.1.fa.map Aw)), (1002, .vec 1 (v3.1.fe.map EI))] rfl rfl) (Ax ?_)
  exact ⟨⟨[_, _], ⟨.cellN _ _ _ _ _ _ _ rfl rfl CF Bc rfl rfl (Kj rfl), ⟨.tmp _ _ rfl, tv⟩⟩, rfl⟩, ⟨rfl, rfl, rfl, tv⟩⟩
theorem QW (N : Nat) (p0 : Ae) (p1 : Ag) (r : (List AH) × Int) (h : HF N p0 p1 = some r) : Ay Tryz.prog 64 [.e (.agg (Al p0)), .e (.agg (AR p1))] [] (.tup [.one (sC (r.1.map Bs)), .one (iC r.2)]) := by
 unfold HF at h
 refine An (n := 119) (rs := [.tmp 4, .tmp 5]) Tryz.func64 rfl rfl rfl (A2 rfl) (A2 rfl) rfl fun w0 S0 => ?_
 refine As Ac rfl (qb rfl (qb rfl (qa rfl (qa rfl (Ad (As Ac rfl (qL CF Bc rfl (Bx Uq ZR rfl ?_))))))))
 refine MM [(0, .tmp 21, _)] (.p rfl) rfl ⟨rfl, tv⟩ rfl JD LE Uq rfl rfl (A2 rfl) rfl rfl ?_
 refine E0 (ID 22 8 [.s, .s, .s, .s, .s, .s, .s, .x 1 []] _ ((([(AH.mk p1 ((-1)) ((Ai.mk 0 0 0)) (([] : List Int)))] : List AH)).map Bs) rfl rfl) (qa rfl (Ad (As Ac rfl ?_)))
 refine Wq (.p rfl) rfl ?_
 refine qL CF Bc rfl ?_
 obtain ⟨v1, a1, h⟩ := bind_some h
 refine AF [] (Pu N p1 v1 a1) bN rfl ?_
 refine Tg (kv := Value.string) (vt := C7) (m := ([] : List (ByteArray × Int))) (k := v1) (v := 0) rfl (.inr rfl) rfl rfl rfl rfl (Oo SP aJ) rfl ?_
 refine qm rfl (qa rfl (Ad (Ap (As Ac rfl (qa rfl (Ad ?_))))))
 refine AB (L := Ey N p0) h (fun v2 => mk [(2, oD (.ptr 2 0)), (6, oD (.own 2001)), (7, oD (.mref 2002)), (8, iD v2.2.2)] [(2, .box (Al p0)), (2001, .dvec 8 [.s, .s, .s, .s, .s, .s, .s, .x 1 []] (v2.1.map Bs)), (2002, .mp (JY Value.string C7 v2.2.1))]) (fun v3 => mk [(6, oD (.own 2003))] [(2003, .dvec 8 [.s, .s, .s, .s, .s, .s, .s, .x 1 []] (v3.map Bs))]) (fun _ _ => rfl) (sm [(2001, 22), (2002, 23)] _ _ rfl rfl) (fun j2 n2 v2 h => ?_) (fun v3 s h hs => ?_)
 ·unfold Ey at h
  refine Ap (As Ac rfl (qm rfl (qm rfl ?_)))
  refine UB (.p rfl) rfl rfl (Ky Bs v2.1 _ _) JD ?_
  refine A0 rfl (Ad ?_)
  refine Bd h rfl (fun h => ?_) fun h => ?_
  ·refine Ao (Ap (AL (As Ac rfl (qL D0 CX rfl (qm rfl (qm rfl ?_))))))
   obtain ⟨v5, a5, b5, h⟩ := Ah h
   refine Im (.p rfl) rfl rfl rfl (Ky Bs v2.1 _ _) JD LE a5 (AC b5) ?_
   refine qh Qd rfl ?_
   refine TM (.p rfl) rfl CF Bc rfl (Af b5) rfl rfl (by decide) rfl ?_
   obtain ⟨v6, a6, h⟩ := bind_some h
   refine AF [2004] (PB N p0 ((Ag.mk v5.fq.fd v5.fq.fa v5.fq.fe)) v6 a6) dL rfl (qm rfl (qx rfl (qx rfl (qa rfl (qa rfl (AJ (by kernel_rfl) (Ap (As Ac rfl (qm rfl (CU rfl (Ad ?_)))))))))))
   refine Bd h rfl (fun h => ?_) fun h => ?_
   ·refine As Ac rfl (qm rfl (qa rfl (qa rfl (Ad ?_))))
    obtain rfl := sj h
    refine Ak ((NC 4 _ rfl).trans (sm [] [(4, pD (.sl ((([] : List AH)).map Bs))), (5, iD v6.2)] [] rfl rfl)) (Ax ?_)
    exact ⟨⟨[_, _], ⟨.tmp _ _ rfl, ⟨.tmp _ _ rfl, tv⟩⟩, rfl⟩, tv⟩
   ·refine Ao (As Ac rfl (qm rfl (D9 F2 rfl (qm rfl (Ad ?_)))))
    refine AB (L := CY N p0 v2 v6) h (fun v8 => mk [(2, oD (.ptr 2 0)), (6, oD (.own 2005)), (7, oD (.mref 2006)), (8, iD v2.2.2), (46, oD (.own 2007)), (47, iD ((v6.1.length : Int))), (48, iD v8.2.2)] [(2, .box (Al p0)), (2005, .dvec 8 [.s, .s, .s, .s, .s, .s, .s, .x 1 []] (v8.1.map Bs)), (2006, .mp (JY Value.string C7 v8.2.1)), (2007, .vec 3 (v6.1.map AP))]) (fun v9 => mk [(2, oD (.ptr 2 0)), (6, oD (.own 2008)), (7, oD (.mref 2009)), (8, iD v2.2.2)] [(2, .box (Al p0)), (2008, .dvec 8 [.s, .s, .s, .s, .s, .s, .s, .x 1 []] (v9.1.map Bs)), (2009, .mp (JY Value.string C7 v9.2))]) (fun _ _ => rfl) (sm [(2005, 2001), (2006, 2002), (2007, 2004)] _ _ rfl rfl) (fun j8 n8 v8 h => ?_) (fun v9 s h hs => ?_)
    ·unfold CY at h
     refine As Ac rfl (A0 rfl (Ad (Ap ?_)))
     refine Bd h rfl (fun h => ?_) fun h => ?_
     ·refine Ao (Ap (AL (As Ac rfl ?_)))
      obtain ⟨v11, a11, b11, h⟩ := Ah h
      refine qI F2 DQ a11 (Af b11) rfl (qJ H3 DQ (Af b11) rfl (qz I8 rfl (qs DQ rfl (Ad (As Ac rfl (qL D0 CX rfl (qm rfl (qm rfl ?_))))))))
      obtain ⟨v12, a12, b12, h⟩ := Ah h
      refine Im (.p rfl) rfl rfl rfl (Ky Bs v8.1 _ _) JD LE a12 (AC b12) ?_
      refine qh Qd rfl ?_
      refine TM (.p rfl) rfl CF Bc rfl (Af b12) rfl rfl (by decide) rfl ?_
      refine qL H3 DQ rfl ?_
      obtain ⟨v13, a13, h⟩ := bind_some h
      refine AF [2010, 2011, 2012] (Sb N p0 ((Ag.mk v12.fq.fd v12.fq.fa v12.fq.fe)) v11 v13 a13) ed rfl (qm rfl (qx rfl (qx rfl (qz Fx rfl (qs Bc rfl (qa rfl (AJ (by kernel_rfl) (Ap (As Ac rfl (qm rfl (CU rfl (Ad ?_))))))))))))
      refine Bd h rfl (fun h => ?_) fun h => ?_
      ·refine As Ac rfl (qm rfl (qa rfl (qa rfl (Ad ?_))))
       obtain rfl := sj h
       refine Ak ((NC 4 _ rfl).trans (sm [] [(4, pD (.sl ((([] : List AH)).map Bs))), (5, iD v13.2)] [] rfl rfl)) (Ax ?_)
       exact ⟨⟨[_, _], ⟨.tmp _ _ rfl, ⟨.tmp _ _ rfl, tv⟩⟩, rfl⟩, tv⟩
      ·refine Ao (As Ac rfl (qL CF Bc rfl ?_))
       obtain ⟨v15, a15, h⟩ := bind_some h
       refine Fz [] [2010, 2011, 2012] (Pu N v13.1 v15 a15) bN DE rfl (qa rfl (Ad (As Ac rfl (qm rfl (qm rfl ?_)))))
       refine W6 (kv := Value.string) (vt := C7) (m := v8.2.1) (dv := 0) (.p rfl) rfl rfl rfl (Oo SP aJ) (by rw [SP]; rfl) Lb rfl rfl rfl ?_
       refine qm rfl (qx rfl (qx rfl (qa rfl (qa rfl (Ad ?_)))))
       refine AU h (fun v16 => mk [(2, oD (.ptr 2 0)), (6, oD (.own 2013)), (7, oD (.mref 2014)), (8, iD v2.2.2), (16, iD v16.2.2), (46, oD (.own 2015)), (47, iD ((v6.1.length : Int))), (48, iD v8.2.2)] [(2, .box (Al p0)), (2013, .dvec 8 [.s, .s, .s, .s, .s, .s, .s, .x 1 []] (v16.1.map Bs)), (2014, .mp (JY Value.string C7 v16.2.1)), (2015, .vec 3 (v6.1.map AP))]) (fun j16 h => ?_) (fun v16 h => ?_)
       ·refine As Ac rfl (qm rfl (CQ rfl (Ad ?_)))
        refine Bd h rfl (fun h => ?_) fun h => ?_
        ·refine AU h (fun v18 => mk [(2, oD (.ptr 2 0)), (6, oD (.own 2016)), (7, oD (.mref 2017)), (8, iD v2.2.2), (15, pD (.val (.string v15))), (16, iD v18.2), (46, oD (.own 2018)), (47, iD ((v6.1.length : Int))), (48, iD v8.2.2)] [(2, .box (Al p0)), (2016, .dvec 8 [.s, .s, .s, .s, .s, .s, .s, .x 1 []] (v18.1.map Bs)), (2017, .mp (JY Value.string C7 v8.2.1)), (2018, .vec 3 (v6.1.map AP))]) (fun j18 h => ?_) (fun v18 h => ?_)
         ·refine As Ac rfl (qL D0 CX rfl (qL CF Bc rfl ?_))
          obtain ⟨v19, a19, h⟩ := bind_some h
          refine Fz [] [2010, 2011, 2012] (NN N p0 v13.1 v19 a19) bf DE rfl (qm rfl (qx rfl (qx rfl (qa rfl (qa rfl (Ad ?_))))))
          refine AU h (fun v20 => mk [(2, oD (.ptr 2 0)), (6, oD (.own 2022)), (7, oD (.mref 2023)), (8, iD v2.2.2), (12, oD (.ptr 12 0)), (13, oD (.ptr 13 0)), (15, pD (.val (.string v15))), (46, oD (.own 2024)), (47, iD ((v6.1.length : Int))), (48, iD v8.2.2), (87, bD v20)] [(2, .box (Al p0)), (12, .box (Ed v11)), (13, .box [.own 2019, .own 2020, .own 2021]), (2019, .vec 1 (v13.1.fd.map Aw)), (2020, .vec 1 (v13.1.fa.map Aw)), (2021, .vec 1 (v13.1.fe.map EI)), (2022, .dvec 8 [.s, .s, .s, .s, .s, .s, .s, .x 1 []] (v8.1.map Bs)), (2023, .mp (JY Value.string C7 v8.2.1)), (2024, .vec 3 (v6.1.map AP))]) (fun j20 h => ?_) (fun v20 h => ?_)
          ·refine Aj Ac rfl (qm rfl (CU rfl (qm rfl ?_)))
           refine E1 84 h rfl (fun h => ?_) fun h => ?_
           ·refine qn rfl (qn rfl (qp rfl (Ad ?_)))
            exact sn [(2019, 2010), (2020, 2011), (2021, 2012), (2022, 2005), (2023, 2006), (2024, 2007)] h
           ·refine qm rfl (CQ rfl (qp rfl (Ad ?_)))
            exact sn [(2019, 2010), (2020, 2011), (2021, 2012), (2022, 2005), (2023, 2006), (2024, 2007)] h
          ·refine Bd h rfl (fun h => ?_) fun h => ?_
           ·refine Aj Ac rfl (qa rfl (Ad ?_))
            exact sn [(2016, 2022), (2017, 2023), (2018, 2024)] h
           ·refine As Ac rfl (qm rfl ?_)
            refine UB (.p rfl) rfl rfl (Ky Bs v8.1 _ _) JD ?_
            refine qa rfl (Ad (Aj Ac rfl (qm rfl (qL CF Bc rfl (qm rfl (qL H3 DQ rfl (Bx Uq ZR rfl (E0 (BX 2019 _ _ rfl rfl) (E0 (BX 2020 _ _ rfl rfl) (E0 (BX 2021 _ _ rfl rfl) ?_))))))))))
            refine MM [(0, .tmp 94, _)] (.p rfl) rfl ⟨rfl, tv⟩ rfl JD LE Uq rfl rfl (A2 rfl) rfl rfl ?_
            refine E0 (ID 95 8 [.s, .s, .s, .s, .s, .s, .s, .x 1 []] _ ((([(AH.mk v13.1 v2.2.2 v11 (([] : List Int)))] : List AH)).map Bs) rfl rfl) ?_
            obtain ⟨c23, h⟩ := AD h
            refine K1 (.p rfl) rfl rfl rfl rfl rfl (by decide) JD JD LE ae (A2 rfl) Uq rfl (Nr (f := Bs) (g := Bs) (xs := v8.1) (ys := (([(AH.mk v13.1 v2.2.2 v11 (([] : List Int)))] : List AH))) c23) (Nt Bs v8.1 (([(AH.mk v13.1 v2.2.2 v11 (([] : List Int)))] : List AH))) rfl rfl ?_
            refine qa rfl (Ad ?_)
            exact sn [(2016, 96), (2017, 2023), (2018, 2024)] h
         ·refine Aj Ac rfl (qm rfl (qm rfl (qm rfl ?_)))
          refine Tg (kv := Value.string) (vt := C7) (m := v8.2.1) (k := v15) (v := v18.2) rfl (.inl rfl) rfl rfl rfl rfl (Oo SP aJ) rfl ?_
          refine Ad ?_
          exact sn [(2013, 2016), (2014, 2017), (2015, 2018)] h
        ·refine Ao ?_
         exact sn [(2013, 2005), (2014, 2006), (2015, 2007)] h
       ·refine AU h (fun v24 => mk [(2, oD (.ptr 2 0)), (6, oD (.own 2025)), (7, oD (.mref 2026)), (8, iD v2.2.2), (46, oD (.own 2027)), (47, iD ((v6.1.length : Int))), (48, iD v8.2.2)] [(2, .box (Al p0)), (2025, .dvec 8 [.s, .s, .s, .s, .s, .s, .s, .x 1 []] (v24.map Bs)), (2026, .mp (JY Value.string C7 v16.2.1)), (2027, .vec 3 (v6.1.map AP))]) (fun j24 h => ?_) (fun v24 h => ?_)
        ·refine As Ac rfl (qm rfl (Ee rfl (Ad ?_)))
         refine Bd h rfl (fun h => ?_) fun h => ?_
         ·refine Aj Ac rfl (qm rfl (qm rfl (qm rfl (qm rfl ?_))))
          obtain ⟨v26, a26, b26, h⟩ := Ah h
          refine Im (.p rfl) rfl rfl rfl (Ky Bs v16.1 _ _) JD LE a26 (AC b26) ?_
          refine qh Ur rfl ?_
          refine UZ (.p rfl) rfl Bi rfl (Af b26) rfl rfl rfl rfl ?_
          refine qm rfl (E2 AG En Lb rfl ?_)
          obtain ⟨c27, h⟩ := AD h
          refine ED (f := Aw) AG AG En L7 Lb c27 rfl ?_
          obtain ⟨v28, a28, b28, h⟩ := Ah h
          refine Im (.p rfl) rfl rfl rfl (am Bs v16.1 _ _ _ _ _) JD LE a28 (AC b28) ?_
          refine qh Ur rfl ?_
          refine WO rfl rfl rfl rfl (rows2 := (v26.fa ++ (([v16.2.2] : List Int))).map Aw) (cols2 := []) rfl rfl (Af b28) (by decide) Wj rfl rfl (A6 Bs v16.1 _ ((AH.mk ((Ag.mk v28.fq.fd v28.fq.fa v28.fq.fe)) v28.fg ((Ai.mk v28.ft.ff v28.ft.fi v28.ft.fr)) (v26.fa ++ (([v16.2.2] : List Int)))))) ?_
          refine Ad ?_
          exact sn [(2025, 2013), (2026, 2014), (2027, 2015)] h
         ·refine Ao ?_
          exact sn [(2025, 2013), (2026, 2014), (2027, 2015)] h
        ·refine As Ac rfl (qm rfl ?_)
         refine UB (.p rfl) rfl rfl (Ky Bs v24 _ _) JD ?_
         refine Gt rfl (Ad ?_)
         refine Bd h rfl (fun h => ?_) fun h => ?_
         ·refine As Ac rfl (qa rfl (qa rfl (Ad ?_)))
          obtain rfl := sj h
          refine Ak ((NC 4 _ rfl).trans (sm [] [(4, pD (.sl ((([] : List AH)).map Bs))), (5, iD 3)] [] rfl rfl)) (Ax ?_)
          exact ⟨⟨[_, _], ⟨.tmp _ _ rfl, ⟨.tmp _ _ rfl, tv⟩⟩, rfl⟩, tv⟩
         ·refine Ao (Aj Ac rfl (AW rfl (qm rfl (Ad ?_))))
          exact sn [(2005, 2025), (2006, 2026), (2007, 2027)] h
     ·refine AV ?_
      exact sn [(2008, 2005), (2009, 2006)] h
    ·refine Ak hs (Aj Ac rfl (qm rfl (AW rfl (qa rfl (Ad ?_)))))
     exact sn [(2001, 2008), (2002, 2009)] h
  ·refine AV ?_
   exact sn [(2003, 2001)] h
 ·refine Ak hs (As Ac rfl (qm rfl (qa rfl (qa rfl (Ad ?_)))))
  obtain rfl := sj h
  refine Ak ((OI 2003 _ _ _ rfl rfl).trans (sm [] [(4, pD (.sl (v3.map Bs))), (5, iD 0)] [] rfl rfl)) (Ax ?_)
  exact ⟨⟨[_, _], ⟨.tmp _ _ rfl, ⟨.tmp _ _ rfl, tv⟩⟩, rfl⟩, tv⟩
theorem Lk (N : Nat) (p0 : List Int) (p1 : List Int) (r : Bool) (h : EN N p0 p1 = some r) : Ay Tryz.prog 92 [pD (.sl (p0.map Aw)), pD (.sl (p1.map Aw))] [] (bD r) := by
 unfold EN at h
 refine An (n := 26) (rs := [.tmp 4]) Tryz.func92 rfl rfl rfl (A2 rfl) (A2 rfl) rfl fun w0 S0 => ?_
 refine As Ac rfl (qa rfl (Ad (Ap (As Ac rfl (qm rfl (AZ AG rfl (qm rfl (AZ AG rfl (CU rfl (Ad ?_))))))))))
 refine Bd h rfl (fun h => ?_) fun h => ?_
 ·refine As Ac rfl (qa rfl (Ad ?_))
  obtain rfl := sj h
  refine Ak (sm [] [(4, bD false)] [] rfl rfl) (Ax ?_)
  exact ⟨⟨[_], ⟨.tmp _ _ rfl, tv⟩, rfl⟩, tv⟩
 ·refine Ao (Ap (As Ac rfl (qm rfl (AZ AG rfl (qm rfl (Ad ?_))))))
  refine AB (L := CH N p0 p1) h (fun v2 => mk [(0, pD (.sl (p0.map Aw))), (1, pD (.sl (p1.map Aw))), (12, iD ((p0.length : Int))), (13, iD v2)] []) (fun v3 => mk [] []) (fun _ _ => rfl) (sm [] _ _ rfl rfl) (fun j2 n2 v2 h => ?_) (fun v3 s h hs => ?_)
  ·unfold CH at h
   refine As Ac rfl (A0 rfl (Ad (Ap ?_)))
   refine Bd h rfl (fun h => ?_) fun h => ?_
   ·refine Ao (Ap (AL (As Ac rfl (qm rfl (qa rfl (Ad (As Ac rfl (qm rfl (qm rfl ?_)))))))))
    obtain ⟨v5, a5, b5, h⟩ := Ah h
    refine qi AG En a5 (Af b5) rfl (qk CP rfl (qm rfl (qm rfl ?_)))
    obtain ⟨v6, a6, b6, h⟩ := Ah h
    refine qi AG En a6 (Af b6) rfl (qk CP rfl (CU rfl (AJ (by kernel_rfl) ?_)))
    refine Bd h rfl (fun h => ?_) fun h => ?_
    ·refine As Ac rfl (qa rfl (Ad ?_))
     obtain rfl := sj h
     refine Ak (sm [] [(4, bD false)] [] rfl rfl) (Ax ?_)
     exact ⟨⟨[_], ⟨.tmp _ _ rfl, tv⟩, rfl⟩, tv⟩
    ·refine Ao (Aj Ac rfl (AW rfl (qm rfl (Ad ?_))))
     exact sn [] h
   ·refine AV ?_
    exact sn [] h
  ·refine Ak hs (As Ac rfl (qa rfl (Ad ?_)))
   obtain rfl := sj h
   refine Ak (sm [] [(4, bD true)] [] rfl rfl) (Ax ?_)
   exact ⟨⟨[_], ⟨.tmp _ _ rfl, tv⟩, rfl⟩, tv⟩
theorem J0 (N : Nat) (p0 : List Int) (p1 : Int → Option Bool) (r : Int) (h : EX N p0 p1 = some r) : Ay Tryz.prog 131 [pD (.sl (p0.map Aw)), oD (.clo (Cy (O7 false Aw) tB p1))] [] (iD r) := by
 unfold EX at h
 refine An (n := 19) (rs := [.tmp 4]) Tryz.func131 rfl rfl rfl (A2 rfl) (A2 rfl) rfl fun w0 S0 => ?_
 refine As Ac rfl (qa rfl (Ad (Ap (As Ac rfl (qm rfl (AZ AG rfl (qm rfl (Ad ?_))))))))
 refine AB (L := BB N p0 p1) h (fun v1 => mk [(0, pD (.sl (p0.map Aw))), (1, oD (.clo (Cy (O7 false Aw) tB p1))), (7, iD ((p0.length : Int))), (8, iD v1)] []) (fun v2 => mk [] []) (fun _ _ => rfl) (sm [] _ _ rfl rfl) (fun j1 n1 v1 h => ?_) (fun v2 s h hs => ?_)
 ·unfold BB at h
  refine As Ac rfl (A0 rfl (Ad (Ap ?_)))
  refine Bd h rfl (fun h => ?_) fun h => ?_
  ·refine Ao (Ap (AL (As Ac rfl (qm rfl (qa rfl (Ad (As Ac rfl (qm rfl (qm rfl (qm rfl ?_))))))))))
   obtain ⟨v4, a4, b4, h⟩ := Ah h
   refine qi AG En a4 (Af b4) rfl (qk CP rfl ?_)
   obtain ⟨v5, a5, h⟩ := bind_some h
   refine F6 (ds0 := [_]) (ar := (O7 false Aw) v4) (.p rfl) rfl rfl ⟨rfl, tv⟩ rfl rfl rfl (F3 (N7 _ _ Sx) a5) ?_
   refine Ad ?_
   refine Bd h rfl (fun h => ?_) fun h => ?_
   ·refine As Ac rfl (qm rfl (qa rfl (Ad ?_)))
    obtain rfl := sj h
    refine Ak (sm [] [(4, iD v1)] [] rfl rfl) (Ax ?_)
    exact ⟨⟨[_], ⟨.tmp _ _ rfl, tv⟩, rfl⟩, tv⟩
   ·refine Ao (Aj Ac rfl (AW rfl (qm rfl (Ad ?_))))
    exact sn [] h
  ·refine AV ?_
   exact sn [] h
 ·refine Ak hs (As Ac rfl (qa rfl (Ad ?_)))
  obtain rfl := sj h
  refine Ak (sm [] [(4, iD ((-1)))] [] rfl rfl) (Ax ?_)
  exact ⟨⟨[_], ⟨.tmp _ _ rfl, tv⟩, rfl⟩, tv⟩
theorem Jo (N : Nat) (p0 : List Int) (p1 : Int → Option Bool) (r : Bool) (h : Dl N p0 p1 = some r) : Ay Tryz.prog 93 [pD (.sl (p0.map Aw)), oD (.clo (Cy (O7 false Aw) tB p1))] [] (bD r) := by
 unfold Dl at h
 refine An (n := 9) (rs := [.tmp 4]) Tryz.func93 rfl rfl rfl (A2 rfl) (A2 rfl) rfl fun w0 S0 => ?_
 refine As Ac rfl (qa rfl (Ad (As Ac rfl (qm rfl (qm rfl ?_)))))
 obtain ⟨v1, a1, h⟩ := bind_some h
 refine AF [] (J0 N p0 p1 v1 a1) bc rfl (Ee rfl (qa rfl (Ad ?_)))
 obtain rfl := sj h
 refine Ak (sm [] [(4, bD ((decide (0 ≤ v1))))] [] rfl rfl) (Ax ?_)
 exact ⟨⟨[_], ⟨.tmp _ _ rfl, tv⟩, rfl⟩, tv⟩
theorem SF (N : Nat) (p0 : Int) (r : Bool) (h : H8 N p0 = some r) : Ay Tryz.prog 94 [iD p0] [] (bD r) := by
 unfold H8 at h
 refine An (n := 5) (rs := [.tmp 2]) Tryz.func94 rfl rfl rfl (A2 rfl) (A2 rfl) rfl fun w0 S0 => ?_
 refine As Ac rfl (qa rfl (Ad (As Ac rfl (qm rfl (Ee rfl (qa rfl (Ad ?_)))))))
 obtain rfl := sj h
 refine Ak (sm [] [(2, bD ((decide (0 ≤ p0))))] [] rfl rfl) (Ax ?_)
 exact ⟨⟨[_], ⟨.tmp _ _ rfl, tv⟩, rfl⟩, tv⟩
theorem UX (N : Nat) (p0 : Ae) (p1 : Ag) (r : Bool) (h : Jl N p0 p1 = some r) : Ay Tryz.prog 67 [.e (.agg (Al p0)), .e (.agg (AR p1))] [] (bD r) := by
 unfold Jl at h
 refine An (n := 22) (rs := [.tmp 4]) Tryz.func67 rfl rfl rfl (A2 rfl) (A2 rfl) rfl fun w0 S0 => ?_
 refine As Ac rfl (qb rfl (qb rfl (qa rfl (Ad ?_))))
 refine AU h (fun v1 => mk [(4, bD v1)] []) (fun j1 h => ?_) (fun v1 h => ?_)
 ·refine Aj Ac rfl (qL D0 CX rfl (qL CF Bc rfl ?_))
  obtain ⟨v2, a2, h⟩ := bind_some h
  refine AF [] (Ks N p0 p1 v2 a2) Zg rfl (B5 rfl (qm rfl ?_))
  refine E1 9 h rfl (fun h => ?_) fun h => ?_
  ·refine qf DY rfl (ql Bi rfl (qf Ji rfl (ql Bi rfl ?_)))
   obtain ⟨v4, a4, h⟩ := bind_some h
   refine AF [] (Lk N p1.fd p0.fo v4 a4) dM rfl (qp rfl (qm rfl ?_))
   refine E1 16 h rfl (fun h => ?_) fun h => ?_
   ·refine qf B8 rfl (ql Bi rfl ?_)
    obtain ⟨v6, a6, h⟩ := bind_some h
    refine AF [] (Ay.weak (ds' := [pD (.sl (p1.fa.map Aw)), oD (.fnc 94)]) (Jo N p1.fa ((fun (x : Int) => H8 N x)) v6 a6) ⟨(fun _ _ _ hh => hh), (fun _ _ _ hh => VO dI (fun ar t ht => by obtain ⟨x, r, rfl, hq, rfl⟩ := KT ht; exact SF N x r hq) hh), tv⟩) ee rfl ?_
    refine CQ rfl (qp rfl (qa rfl (Ad ?_)))
    exact sn [] h
   ·refine qn rfl (qn rfl (qn rfl (qn rfl (qp rfl (qa rfl (Ad ?_))))))
    exact sn [] h
  ·refine qn rfl (qn rfl (qn rfl (qn rfl (qn rfl (qp rfl (qm rfl (qn rfl (qn rfl (qn rfl (qn rfl (qp rfl (qa rfl (Ad ?_)))))))))))))
   exact sn [] h
 ·obtain rfl := sj h
  refine Ak (sm [] [(4, bD v1)] [] rfl rfl) (Ax ?_)
  exact ⟨⟨[_], ⟨.tmp _ _ rfl, tv⟩, rfl⟩, tv⟩
theorem QM (N : Nat) (p0 : AH) (p1 : List Int) (p2 : List Int) (p3 : List Int) (p4 : List Ar) (r : Bool) (h : FN N p0 p1 p2 p3 p4 = some r) : Ay Tryz.prog 66 [.e (.agg (Wn p0)), oD (.rop [.sl (p1.map Aw), .sl (p2.map Aw), .sl (p3.map Aw), .sl (p4.map AO)])] [] (bD r) := by
 unfold FN at h
 refine An (n := 8) (rs := [.tmp 3]) Tryz.func66 rfl rfl rfl (A2 rfl) (A2 rfl) rfl fun w0 S0 => ?_
 refine As Ac rfl (qb rfl (qa rfl (Ad (As Ac rfl (qK D0 CX rfl (qf Qd rfl (qL CF Bc rfl ?_)))))))
 obtain ⟨v1, a1, h⟩ := bind_some h
 refine AF [] (UX N ((Ae.mk p1 p2 p3 p4)) ((Ag.mk p0.fq.fd p0.fq.fa p0.fq.fe)) v1 a1) dy rfl (qa rfl (Ad ?_))
 obtain rfl := sj h
 refine Ak (sm [] [(3, bD v1)] [] rfl rfl) (Ax ?_)
 exact ⟨⟨[_], ⟨.tmp _ _ rfl, tv⟩, rfl⟩, tv⟩
theorem HK (N : Nat) (p0 : List AH) (p1 : AH → Option Bool) (r : Int) (h : CS N p0 p1 = some r) : Ay Tryz.prog 65 [pD (.sl (p0.map Bs)), oD (.clo (Cy (O7 true Bs) tB p1))] [] (iD r) := by
 unfold CS at h
 refine An (n := 19) (rs := [.tmp 4]) Tryz.func65 rfl rfl rfl (A2 rfl) (A2 rfl) rfl fun w0 S0 => ?_
 refine As Ac rfl (qa rfl (Ad (Ap (As Ac rfl (qm rfl (AZ JD rfl (qm rfl (Ad ?_))))))))
 refine AB (L := A3 N p0 p1) h (fun v1 => mk [(0, pD (.sl (p0.map Bs))), (1, oD (.clo (Cy (O7 true Bs) tB p1))), (7, iD ((p0.length : Int))), (8, iD v1)] []) (fun v2 => mk [] []) (fun _ _ => rfl) (sm [] _ _ rfl rfl) (fun j1 n1 v1 h => ?_) (fun v2 s h hs => ?_)
 ·unfold A3 at h
  refine As Ac rfl (A0 rfl (Ad (Ap ?_)))
  refine Bd h rfl (fun h => ?_) fun h => ?_
  ·refine Ao (Ap (AL (As Ac rfl (qm rfl (qa rfl (Ad (As Ac rfl (qm rfl (qm rfl (qm rfl ?_))))))))))
   obtain ⟨v4, a4, b4, h⟩ := Ah h
   refine qi JD LE a4 (Af b4) rfl (qK bi LE rfl ?_)
   obtain ⟨v5, a5, h⟩ := bind_some h
   refine F6 (ds0 := [_]) (ar := (O7 true Bs) ((AH.mk ((Ag.mk v4.fq.fd v4.fq.fa v4.fq.fe)) v4.fg ((Ai.mk v4.ft.ff v4.ft.fi v4.ft.fr)) v4.fa))) (.p rfl) rfl rfl ⟨rfl, tv⟩ rfl rfl rfl (F3 (N7 _ _ Tw) a5) ?_
   refine Ad ?_
   refine Bd h rfl (fun h => ?_) fun h => ?_
   ·refine As Ac rfl (qm rfl (qa rfl (Ad ?_)))
    obtain rfl := sj h
    refine Ak (sm [] [(4, iD v1)] [] rfl rfl) (Ax ?_)
    exact ⟨⟨[_], ⟨.tmp _ _ rfl, tv⟩, rfl⟩, tv⟩
   ·refine Ao (Aj Ac rfl (AW rfl (qm rfl (Ad ?_))))
    exact sn [] h
  ·refine AV ?_
   exact sn [] h
 ·refine Ak hs (As Ac rfl (qa rfl (Ad ?_)))
  obtain rfl := sj h
  refine Ak (sm [] [(4, iD ((-1)))] [] rfl rfl) (Ax ?_)
  exact ⟨⟨[_], ⟨.tmp _ _ rfl, tv⟩, rfl⟩, tv⟩
theorem Iy (N : Nat) (p0 : List Ai) (r : (List Ai)) (h : BL N p0 = some r) : BV Tryz.prog 95 [oD (.own 90000)] [(.vec 3 (p0.map AP), .vec 3 (r.map AP))] [] (.tup []) := by
 unfold BL at h
 refine Bk (n := 28) (rs := []) Tryz.func95 rfl rfl rfl (A2 rfl) (A2 rfl) rfl rfl (A2 rfl) rfl (A2 rfl) fun w0 S0 GL => O5 ?_
 refine Ak (sm [] [(0, oD (.own 90000))] [(90000, .vec 3 (p0.map AP))] rfl rfl) (As Ac rfl (qm rfl (D9 F2 rfl (Di rfl (qa rfl (qa rfl (Ad ?_)))))))
 refine AB (L := BC N) h (fun v1 => mk [(0, oD (.own 90000)), (2, iD v1.2.1), (3, iD v1.2.2)] [(90000, .vec 3 (v1.1.map AP))]) (fun v2 => mk [] [(90000, .vec 3 (v2.map AP))]) (fun _ _ => rfl) (sm [] _ _ rfl rfl) (fun j1 n1 v1 h => ?_) (fun v2 s h hs => ?_)
 ·unfold BC at h
  refine Ap (As Ac rfl (qm rfl (qm rfl (A0 rfl (Ad ?_)))))
  refine Bd h rfl (fun h => ?_) fun h => ?_
  ·refine Ao (Ap (AL (Aj Ac rfl (qm rfl (qm rfl (qm rfl (qm rfl (qm rfl (qm rfl ?_)))))))))
   obtain ⟨v4, a4, b4, h⟩ := Ah h
   refine qI F2 DQ a4 (Af b4) rfl (qJ H3 DQ (Af b4) rfl (qm rfl (qm rfl ?_)))
   obtain ⟨v5, a5, b5, h⟩ := Ah h
   refine qI F2 DQ a5 (Af b5) rfl (qJ H3 DQ (Af b5) rfl ?_)
   obtain ⟨v6, a6, b6, h⟩ := Ah h
   refine qI F2 DQ a6 (Af b6) rfl ?_
   refine A9 rfl rfl rfl rfl (Af b6) rfl DQ rfl (A2 rfl) (A6 AP v1.1 _ v4) ?_
   obtain ⟨v7, a7, b7, h⟩ := Ah h
   refine qI F2 DQ a7 (Af b7) rfl ?_
   refine A9 rfl rfl rfl rfl (Af b7) rfl DQ rfl (A2 rfl) (A6 AP (v1.1.set ((v1.2.1).toNat) v4) _ v5) ?_
   refine AJ (by kernel_rfl) (Aj Ac rfl (qm rfl (AW rfl (qm rfl (Di rfl (qa rfl (qa rfl (Ad ?_))))))))
   exact sn [] h
  ·refine AV ?_
   exact sn [] h
 ·obtain rfl := sj h
  refine ⟨_, hs.trans (sm [] [] [(90000, .vec 3 (v2.map AP))] rfl rfl), ?_⟩
  exact ⟨⟨[], tv, rfl⟩, ⟨rfl, tv⟩, tv⟩
theorem UQ (N : Nat) (p0 : List AH) (p1 : Int) (r : (List Ai)) (h : Kp N p0 p1 = some r) : Ay Tryz.prog 68 [pD (.sl (p0.map Bs)), iD p1] [(3, r.map AP)] (oD (.own 0)) := by
 unfold Kp at h
 refine An (n := 28) (rs := [.tmp 4]) Tryz.func68 rfl rfl rfl (A2 rfl) (A2 rfl) rfl fun w0 S0 => ?_
 refine As Ac rfl (qa rfl (Ad (As Ac rfl (qa rfl (Ad (Ap ?_))))))
 refine AB (L := G1 N p0) h (fun v1 => mk [(0, pD (.sl (p0.map Bs))), (1, iD v1.1), (5, oD (.own 2001))] [(2001, .vec 3 (v1.2.map AP))]) (fun v2 => mk [(5, oD (.own 2002))] [(2002, .vec 3 (v2.map AP))]) (fun _ _ => rfl) ((Bl 5 2003 3 rfl rfl rfl).trans (sm [(2001, 2003)] _ _ rfl rfl)) (fun j1 n1 v1 h => ?_) (fun v2 s h hs => ?_)
 ·unfold G1 at h
  refine Ap (As Ac rfl (qm rfl (qm rfl ?_)))
  obtain ⟨v3, a3, b3, h⟩ := Ah h
  refine qi JD LE a3 (Af b3) rfl (qg TZ rfl (qk CP rfl (Ee rfl (Ad ?_))))
  refine Bd h rfl (fun h => ?_) fun h => ?_
  ·refine Ao (Ap (AL (Aj Ac rfl (qm rfl (qm rfl (qm rfl ?_))))))
   obtain ⟨v5, a5, b5, h⟩ := Ah h
   refine qi JD LE a5 (Af b5) rfl (qg X7 rfl (qK H3 DQ rfl (E2 F2 DQ I8 rfl ?_)))
   obtain ⟨c6, h⟩ := AD h
   refine ED (f := AP) F2 F2 DQ Qz I8 c6 rfl (qa rfl (Ad (Aj Ac rfl (qm rfl (qm rfl ?_)))))
   obtain ⟨v7, a7, b7, h⟩ := Ah h
   refine qi JD LE a7 (Af b7) rfl (qg TZ rfl (qk CP rfl (qa rfl (Ad ?_))))
   exact sn [(2001, 24)] h
  ·refine AV ?_
   exact sn [(2002, 2001)] h
 ·refine Ak hs (As Ac rfl (qm rfl ?_))
  obtain ⟨v8, a8, h⟩ := bind_some h
  refine DO (ds0 := [_]) [2002] [] [true] (Iy N v2 v8 a8) (.p rfl) dm rfl ⟨rfl, tv⟩ rfl rfl (by decide) ⟨rfl, tv⟩ rfl (Bf rfl) tv ⟨(fun h => by cases h), tv⟩ rfl rfl rfl ?_
  refine Ad (As Ac rfl (qm rfl (qa rfl (Ad ?_))))
  obtain rfl := sj h
  refine Ak (sm [(1000, 2002)] [(4, oD (.own 1000))] [(1000, .vec 3 (v8.map AP))] rfl rfl) (Ax ?_)
  exact ⟨⟨[_], ⟨.tmp _ _ rfl, tv⟩, rfl⟩, ⟨rfl, tv⟩⟩
theorem TA (N : Nat) (p0 : Ae) (p1 : Ag) (r : (List Ai) × Int) (h : GC N p0 p1 = some r) : Ay Tryz.prog 36 [.e (.agg (Al p0)), .e (.agg (AR p1))] [(3, r.1.map AP)] (.tup [.one (.own 0), .one (iC r.2)]) := by
 unfold GC at h
 refine An (n := 38) (rs := [.tmp 4, .tmp 5]) Tryz.func36 rfl rfl rfl (A2 rfl) (A2 rfl) rfl fun w0 S0 => ?_
 refine As Ac rfl (qb rfl (qb rfl (qa rfl (qa rfl (Ad (As Ac rfl (qL D0 CX rfl (qL CF Bc rfl ?_))))))))
 obtain ⟨v1, a1, h⟩ := bind_some h
 refine AF [] (NN N p0 p1 v1 a1) bf rfl (qm rfl (qx rfl (qx rfl (qa rfl (qa rfl (Ad (Ap (As Ac rfl (qm rfl (CU rfl (Ad ?_)))))))))))
 refine Bd h rfl (fun h => ?_) fun h => ?_
 ·refine As Ac rfl (qm rfl (qa rfl (qa rfl (Ad ?_))))
  obtain rfl := sj h
  refine Ak ((Bl 4 2001 3 rfl rfl rfl).trans (sm [(1000, 2001)] [(4, oD (.own 1000)), (5, iD v1.2)] [(1000, .vec 3 ((([] : List Ai)).map AP))] rfl rfl)) (Ax ?_)
  exact ⟨⟨[_, _], ⟨.tmp _ _ rfl, ⟨.tmp _ _ rfl, tv⟩⟩, rfl⟩, ⟨rfl, tv⟩⟩
 ·refine Ao (Ap (As Ac rfl (qm rfl (CQ rfl (Ad ?_)))))
  refine Bd h rfl (fun h => ?_) fun h => ?_
  ·refine As Ac rfl (qa rfl (qa rfl (Ad ?_)))
   obtain rfl := sj h
   refine Ak ((Bl 4 2002 3 rfl rfl rfl).trans (sm [(1000, 2002)] [(4, oD (.own 1000)), (5, iD 13)] [(1000, .vec 3 ((([] : List Ai)).map AP))] rfl rfl)) (Ax ?_)
   exact ⟨⟨[_, _], ⟨.tmp _ _ rfl, ⟨.tmp _ _ rfl, tv⟩⟩, rfl⟩, ⟨rfl, tv⟩⟩
  ·refine Ao (As Ac rfl (qL D0 CX rfl (qL CF Bc rfl ?_)))
   obtain ⟨v4, a4, h⟩ := bind_some h
   refine AF [] (QW N p0 p1 v4 a4) eg rfl (qm rfl (qx rfl (qx rfl (qa rfl (qa rfl (Ad (Ap (As Ac rfl (qm rfl (CU rfl (Ad ?_)))))))))))
   refine Bd h rfl (fun h => ?_) fun h => ?_
   ·refine As Ac rfl (qm rfl (qa rfl (qa rfl (Ad ?_))))
    obtain rfl := sj h
    refine Ak ((Bl 4 2003 3 rfl rfl rfl).trans (sm [(1000, 2003)] [(4, oD (.own 1000)), (5, iD v4.2)] [(1000, .vec 3 ((([] : List Ai)).map AP))] rfl rfl)) (Ax ?_)
    exact ⟨⟨[_, _], ⟨.tmp _ _ rfl, ⟨.tmp _ _ rfl, tv⟩⟩, rfl⟩, ⟨rfl, tv⟩⟩
   ·refine Ao (As Ac rfl (qm rfl (E0 (NS 2 [.sl (p0.fb.map Aw), .sl (p0.fh.map Aw), .sl (p0.fo.map Aw), .sl (p0.fc.map AO)] rfl rfl) ?_)))
    refine Ng (capD := [_]) (Cy (O7 true Bs) tB ((fun (x : AH) => FN N x p0.fb p0.fh p0.fo p0.fc))) (.p rfl) d5 rfl ⟨rfl, tv⟩ rfl (fun ar t ht => by obtain ⟨x, r, rfl, hq, rfl⟩ := KT ht; exact QM N x p0.fb p0.fh p0.fo p0.fc r hq) ?_
    obtain ⟨v6, a6, h⟩ := bind_some h
    refine AF [] (HK N v4.1 ((fun (x : AH) => FN N x p0.fb p0.fh p0.fo p0.fc)) v6 a6) dz rfl (qa rfl (Ad (Ap (As Ac rfl (qm rfl (A0 rfl (Ad ?_)))))))
    refine Bd h rfl (fun h => ?_) fun h => ?_
    ·refine As Ac rfl (qa rfl (qa rfl (Ad ?_)))
     obtain rfl := sj h
     refine Ak ((Bl 4 2004 3 rfl rfl rfl).trans (sm [(1000, 2004)] [(4, oD (.own 1000)), (5, iD 14)] [(1000, .vec 3 ((([] : List Ai)).map AP))] rfl rfl)) (Ax ?_)
     exact ⟨⟨[_, _], ⟨.tmp _ _ rfl, ⟨.tmp _ _ rfl, tv⟩⟩, rfl⟩, ⟨rfl, tv⟩⟩
    ·refine Ao (As Ac rfl (qm rfl (qm rfl ?_)))
     obtain ⟨v8, a8, h⟩ := bind_some h
     refine AF [2005] (UQ N v4.1 v6 v8 a8) dY rfl (qa rfl (qa rfl (Ad ?_)))
     obtain rfl := sj h
     refine Ak (sm [(1000, 2005)] [(4, oD (.own 1000)), (5, iD 0)] [(1000, .vec 3 (v8.map AP))] rfl rfl) (Ax ?_)
     exact ⟨⟨[_, _], ⟨.tmp _ _ rfl, ⟨.tmp _ _ rfl, tv⟩⟩, rfl⟩, ⟨rfl, tv⟩⟩
theorem OZ (N : Nat) (p0 : Ae) (r : (List Ai) × Int) (h : Gz N p0 = some r) : Ay Tryz.prog 13 [.e (.agg (Al p0))] [(3, r.1.map AP)] (.tup [.one (.own 0), .one (iC r.2)]) := by
 unfold Gz at h
 refine An (n := 19) (rs := [.tmp 2, .tmp 3]) Tryz.func13 rfl rfl rfl (A2 rfl) (A2 rfl) rfl fun w0 S0 => ?_
 refine As Ac rfl (qb rfl (qa rfl (qa rfl (Ad (As Ac rfl (qL D0 CX rfl ?_))))))
 obtain ⟨v1, a1, h⟩ := bind_some h
 refine AF [2001, 2002, 2003] (Ua N p0 v1 a1) d6 rfl (qm rfl (qx rfl (qx rfl (qz Fx rfl (qs Bc rfl (qa rfl (Ad (Ap (As Ac rfl (qm rfl (CU rfl (Ad ?_))))))))))))
 refine Bd h rfl (fun h => ?_) fun h => ?_
 ·refine As Ac rfl (qm rfl (qa rfl (qa rfl (Ad ?_))))
  obtain rfl := sj h
  refine Ak ((Bl 2 2004 3 rfl rfl rfl).trans (sm [(1000, 2004)] [(2, oD (.own 1000)), (3, iD v1.2)] [(1000, .vec 3 ((([] : List Ai)).map AP))] rfl rfl)) (Ax ?_)
  exact ⟨⟨[_, _], ⟨.tmp _ _ rfl, ⟨.tmp _ _ rfl, tv⟩⟩, rfl⟩, ⟨rfl, tv⟩⟩
 ·refine Ao (As Ac rfl (qL D0 CX rfl (qL CF Bc rfl ?_)))
  obtain ⟨v3, a3, h⟩ := bind_some h
  refine Fz [2005] [2001, 2002, 2003] (TA N p0 v1.1 v3 a3) dw (Ka (fun _ => rfl) DE) rfl (qx rfl (qx rfl (qa rfl (qa rfl (Ad ?_)))))
  obtain rfl := sj h
  refine Ak (sm [(1000, 2005)] [(2, oD (.own 1000)), (3, iD v3.2)] [(1000, .vec 3 (v3.1.map AP))] rfl rfl) (Ax ?_)
  exact ⟨⟨[_, _], ⟨.tmp _ _ rfl, ⟨.tmp _ _ rfl, tv⟩⟩, rfl⟩, ⟨rfl, tv⟩⟩
theorem I1 (N : Nat) (p0 : Ae) (p1 : List Aa) (r : Bool × Int) (h : EL N p0 p1 = some r) : Ay Tryz.prog 42 [.e (.agg (Al p0)), pD (.sl (p1.map Ab))] [] (.tup [.one (.pure (.val (.bool r.1))), .one (iC r.2)]) := by
 unfold EL at h
 refine An (n := 20) (rs := [.tmp 4, .tmp 5]) Tryz.func42 rfl rfl rfl (A2 rfl) (A2 rfl) rfl fun w0 S0 => ?_
 refine As Ac rfl (qb rfl (qa rfl (qa rfl (Ad (As Ac rfl (qL D0 CX rfl (qm rfl ?_)))))))
 obtain ⟨v1, a1, h⟩ := bind_some h
 refine AF [2001, 2002, 2003] (Qb N p0 p1 v1 a1) ef rfl ?_
 obtain ⟨v2, a2, h⟩ := bind_some h
 refine Fz [2004] [2001, 2002, 2003] (OZ N v1 v2 a2) cq (Ka (fun _ => rfl) DE) rfl (qm rfl (qx rfl (qx rfl (qa rfl (qa rfl (Ad (Ap (As Ac rfl (qm rfl (B5 rfl (Ad ?_)))))))))))
 refine Bd h rfl (fun h => ?_) fun h => ?_
 ·refine As Ac rfl (qm rfl (qa rfl (qa rfl (Ad ?_))))
  obtain rfl := sj h
  refine Ak (sm [] [(4, bD false), (5, iD v2.2)] [] rfl rfl) (Ax ?_)
  exact ⟨⟨[_, _], ⟨.tmp _ _ rfl, ⟨.tmp _ _ rfl, tv⟩⟩, rfl⟩, tv⟩
 ·refine Ao (As Ac rfl (qm rfl (B5 rfl (qa rfl (qa rfl (Ad ?_))))))
  obtain rfl := sj h
  refine Ak (sm [] [(4, bD ((v2.2 == 0))), (5, iD 0)] [] rfl rfl) (Ax ?_)
  exact ⟨⟨[_, _], ⟨.tmp _ _ rfl, ⟨.tmp _ _ rfl, tv⟩⟩, rfl⟩, tv⟩
theorem MN (N : Nat) (p0 : Ae) (r : (List (List Aa)) × Int) (h : GV N p0 = some r) : Ay Tryz.prog 24 [.e (.agg (Al p0))] [(1, r.1.map (FP Ab))] (.tup [.one (.own 0), .one (iC r.2)]) := by
 unfold GV at h
 refine An (n := 54) (rs := [.tmp 2, .tmp 3]) Tryz.func24 rfl rfl rfl (A2 rfl) (A2 rfl) rfl fun w0 S0 => ?_
 refine As Ac rfl (qb rfl (qa rfl (qa rfl (Ad (As Ac rfl (qL D0 CX rfl ?_))))))
 obtain ⟨v1, a1, h⟩ := bind_some h
 refine AF [2001] (Kx N p0 v1 a1) bj rfl (qm rfl (qx rfl (qx rfl (qa rfl (qa rfl (Ad (Ap (As Ac rfl (qm rfl (CU rfl (Ad ?_)))))))))))
 refine Bd h rfl (fun h => ?_) fun h => ?_
 ·refine As Ac rfl (qm rfl (qa rfl (qa rfl (Ad ?_))))
  obtain rfl := sj h
  refine Ak ((Bl 2 2002 1 rfl rfl rfl).trans (sm [(1000, 2002)] [(2, oD (.own 1000)), (3, iD v1.2)] [(1000, .vec 1 ((([] : List (List Aa))).map (FP Ab)))] rfl rfl)) (Ax ?_)
  exact ⟨⟨[_, _], ⟨.tmp _ _ rfl, ⟨.tmp _ _ rfl, tv⟩⟩, rfl⟩, ⟨rfl, tv⟩⟩
 ·refine Ao (Ap (As Ac rfl (qm rfl (D9 AT rfl (Gt rfl (Ad ?_))))))
  refine Bd h rfl (fun h => ?_) fun h => ?_
  ·refine As Ac rfl (qa rfl (qa rfl (Ad ?_)))
   obtain rfl := sj h
   refine Ak ((Bl 2 2003 1 rfl rfl rfl).trans (sm [(1000, 2003)] [(2, oD (.own 1000)), (3, iD 3)] [(1000, .vec 1 ((([] : List (List Aa))).map (FP Ab)))] rfl rfl)) (Ax ?_)
   exact ⟨⟨[_, _], ⟨.tmp _ _ rfl, ⟨.tmp _ _ rfl, tv⟩⟩, rfl⟩, ⟨rfl, tv⟩⟩
  ·refine Ao (Ap (As Ac rfl (qa rfl (Ad ?_))))
   refine AB (L := E4 N p0) h (fun v4 => mk [(1, oD (.ptr 1 0)), (4, pD (.sl (v4.1.map Ab))), (6, iD v4.2)] [(1, .box (Al p0))]) (fun v5 => mk [] []) (fun _ _ => rfl) ((BX 2001 _ _ rfl rfl).trans (sm [] _ _ rfl rfl)) (fun j4 n4 v4 h => ?_) (fun v5 s h hs => ?_)
   ·unfold E4 at h
    refine Ap (As Ac rfl (qm rfl (K0 rfl (Ad ?_))))
    refine Bd h rfl (fun h => ?_) fun h => ?_
    ·refine Ao (Ap (AL (As Ac rfl (qa rfl (Ad (Ap (As Ac rfl (qm rfl (qm rfl ?_)))))))))
     obtain ⟨v7, a7, h⟩ := bind_some h
     refine AF [2004] (PW N v4.1 v4.2 v7 a7) bV rfl (D9 Kq rfl (qm rfl (Ad ?_)))
     refine AB (L := Eu N p0 v7) h (fun v8 => mk [(1, oD (.ptr 1 0)), (4, pD (.sl (v4.1.map Ab))), (6, iD v4.2), (7, oD (.own 2005)), (29, oD (.own 2006)), (30, iD ((v7.length : Int))), (31, iD v8.2)] [(1, .box (Al p0)), (2005, .vec 1 (v8.1.map (FP Ab))), (2006, .vec 1 (v7.map (FP Ab)))]) (fun v9 => mk [(1, oD (.ptr 1 0)), (4, pD (.sl (v4.1.map Ab))), (6, iD v4.2), (7, oD (.own 2007))] [(1, .box (Al p0)), (2007, .vec 1 (v9.map (FP Ab)))]) (fun _ _ => rfl) ((Bl 7 2011 1 rfl rfl rfl).trans (sm [(2005, 2011), (2006, 2004)] _ _ rfl rfl)) (fun j8 n8 v8 h => ?_) (fun v9 s h hs => ?_)
     ·unfold Eu at h
      refine As Ac rfl (A0 rfl (Ad (Ap ?_)))
      refine Bd h rfl (fun h => ?_) fun h => ?_
      ·refine Ao ?_
       refine AU h (fun v11 => mk [(1, oD (.ptr 1 0)), (4, pD (.sl (v4.1.map Ab))), (6, iD v4.2), (7, oD (.own 2008)), (29, oD (.own 2009)), (30, iD ((v7.length : Int))), (31, iD v8.2)] [(1, .box (Al p0)), (2008, .vec 1 (v11.map (FP Ab))), (2009, .vec 1 (v7.map (FP Ab)))]) (fun j11 h => ?_) (fun v11 h => ?_)
       ·refine AL (As Ac rfl ?_)
        obtain ⟨v12, a12, b12, h⟩ := Ah h
        refine qI Kq Tm a12 (Af b12) rfl (qj ai (Af b12) rfl (qa rfl (Ad (As Ac rfl (qL D0 CX rfl (qm rfl ?_))))))
        obtain ⟨v13, a13, h⟩ := bind_some h
        refine AF [] (I1 N p0 v12 v13 a13) ad rfl (qm rfl (qx rfl (qx rfl (qa rfl (qa rfl (Ad (Ap (As Ac rfl (qm rfl (CU rfl (Ad ?_)))))))))))
        refine Bd h rfl (fun h => ?_) fun h => ?_
        ·refine As Ac rfl (qm rfl (qa rfl (qa rfl (Ad ?_))))
         obtain rfl := sj h
         refine Ak ((Bl 2 2010 1 rfl rfl rfl).trans (sm [(1000, 2010)] [(2, oD (.own 1000)), (3, iD v13.2)] [(1000, .vec 1 ((([] : List (List Aa))).map (FP Ab)))] rfl rfl)) (Ax ?_)
         exact ⟨⟨[_, _], ⟨.tmp _ _ rfl, ⟨.tmp _ _ rfl, tv⟩⟩, rfl⟩, ⟨rfl, tv⟩⟩
        ·refine Ao (As Ac rfl (qm rfl (Ad ?_)))
         refine Bd h rfl (fun h => ?_) fun h => ?_
         ·refine Aj Ac rfl (qm rfl (qm rfl (E2 Kq Tm Xc rfl ?_)))
          obtain ⟨c16, h⟩ := AD h
          refine ED (f := (FP Ab)) Kq Kq Tm Zu Xc c16 rfl (qa rfl (Ad ?_))
          exact sn [(2008, 48), (2009, 2006)] h
         ·refine Ao ?_
          exact sn [(2008, 2005), (2009, 2006)] h
       ·refine Aj Ac rfl (AW rfl (qm rfl (Ad ?_)))
        exact sn [(2005, 2008), (2006, 2009)] h
      ·refine AV ?_
       exact sn [(2007, 2005)] h
     ·refine Ak hs (As Ac rfl (qm rfl (D9 Kq rfl (Gt rfl (Ad ?_)))))
      refine Bd h rfl (fun h => ?_) fun h => ?_
      ·refine As Ac rfl (qm rfl (qa rfl (qa rfl (Ad ?_))))
       obtain rfl := sj h
       refine Ak (sm [(1000, 2007)] [(2, oD (.own 1000)), (3, iD 0)] [(1000, .vec 1 (v9.map (FP Ab)))] rfl rfl) (Ax ?_)
       exact ⟨⟨[_, _], ⟨.tmp _ _ rfl, ⟨.tmp _ _ rfl, tv⟩⟩, rfl⟩, ⟨rfl, tv⟩⟩
      ·refine Ao (Aj Ac rfl (qm rfl (AW rfl (qa rfl (Ad ?_)))))
       exact sn [] h
    ·refine AV ?_
     exact sn [] h
   ·refine Ak hs (As Ac rfl (qa rfl (qa rfl (Ad ?_))))
    obtain rfl := sj h
    refine Ak ((Bl 2 2012 1 rfl rfl rfl).trans (sm [(1000, 2012)] [(2, oD (.own 1000)), (3, iD 14)] [(1000, .vec 1 ((([] : List (List Aa))).map (FP Ab)))] rfl rfl)) (Ax ?_)
    exact ⟨⟨[_, _], ⟨.tmp _ _ rfl, ⟨.tmp _ _ rfl, tv⟩⟩, rfl⟩, ⟨rfl, tv⟩⟩
theorem Hs (N : Nat) (p0 : List Aa) (p1 : Aa) (r : Int) (h : DK N p0 p1 = some r) : Ay Tryz.prog 96 [pD (.sl (p0.map Ab)), .e (.agg (Fw p1))] [] (iD r) := by
 unfold DK at h
 refine An (n := 19) (rs := [.tmp 4]) Tryz.func96 rfl rfl rfl (A2 rfl) (A2 rfl) rfl fun w0 S0 => ?_
 refine As Ac rfl (qb rfl (qa rfl (Ad (Ap (As Ac rfl (qm rfl (AZ AT rfl (qm rfl (Ad ?_)))))))))
 refine AB (L := Ca N p0 p1) h (fun v1 => mk [(0, pD (.sl (p0.map Ab))), (3, oD (.ptr 3 0)), (7, iD ((p0.length : Int))), (8, iD v1)] [(3, .box (Fw p1))]) (fun v2 => mk [] []) (fun _ _ => rfl) (sm [] _ _ rfl rfl) (fun j1 n1 v1 h => ?_) (fun v2 s h hs => ?_)
 ·unfold Ca at h
  refine As Ac rfl (A0 rfl (Ad (Ap ?_)))
  refine Bd h rfl (fun h => ?_) fun h => ?_
  ·refine Ao (Ap (AL (As Ac rfl (qm rfl (qa rfl (Ad (As Ac rfl (qL Du AQ rfl (qm rfl (qm rfl ?_))))))))))
   obtain ⟨v4, a4, b4, h⟩ := Ah h
   refine qi AT AQ a4 (Af b4) rfl (qK Du AQ rfl ?_)
   refine SX [.int .i64 p1.fw, .int .i64 p1.fv, .int .i64 p1.fu] [.int .i64 v4.fw, .int .i64 v4.fv, .int .i64 v4.fu] (.p rfl) rfl rfl Rr rfl ?_
   refine AJ (by kernel_rfl) ?_
   refine Bd h rfl (fun h => ?_) fun h => ?_
   ·refine As Ac rfl (qm rfl (qa rfl (Ad ?_)))
    obtain rfl := sj h
    refine Ak (sm [] [(4, iD v1)] [] rfl rfl) (Ax ?_)
    exact ⟨⟨[_], ⟨.tmp _ _ rfl, tv⟩, rfl⟩, tv⟩
   ·refine Ao (Aj Ac rfl (AW rfl (qm rfl (Ad ?_))))
    exact sn [] h
  ·refine AV ?_
   exact sn [] h
 ·refine Ak hs (As Ac rfl (qa rfl (Ad ?_)))
  obtain rfl := sj h
  refine Ak (sm [] [(4, iD ((-1)))] [] rfl rfl) (Ax ?_)
  exact ⟨⟨[_], ⟨.tmp _ _ rfl, tv⟩, rfl⟩, tv⟩
theorem G4 (N : Nat) (p0 : List Aa) (p1 : Aa) (r : Bool) (h : Dn N p0 p1 = some r) : Ay Tryz.prog 69 [pD (.sl (p0.map Ab)), .e (.agg (Fw p1))] [] (bD r) := by
 unfold Dn at h
 refine An (n := 9) (rs := [.tmp 4]) Tryz.func69 rfl rfl rfl (A2 rfl) (A2 rfl) rfl fun w0 S0 => ?_
 refine As Ac rfl (qb rfl (qa rfl (Ad (As Ac rfl (qm rfl (qL Du AQ rfl ?_))))))
 obtain ⟨v1, a1, h⟩ := bind_some h
 refine AF [] (Hs N p0 p1 v1 a1) dh rfl (Ee rfl (qa rfl (Ad ?_)))
 obtain rfl := sj h
 refine Ak (sm [] [(4, bD ((decide (0 ≤ v1))))] [] rfl rfl) (Ax ?_)
 exact ⟨⟨[_], ⟨.tmp _ _ rfl, tv⟩, rfl⟩, tv⟩
theorem Pa (N : Nat) (p0 : Ae) (p1 : List Aa) (r : Int) (h : Jf N p0 p1 = some r) : Ay Tryz.prog 37 [.e (.agg (Al p0)), pD (.sl (p1.map Ab))] [] (iD r) := by
 unfold Jf at h
 refine An (n := 27) (rs := [.tmp 4]) Tryz.func37 rfl rfl rfl (A2 rfl) (A2 rfl) rfl fun w0 S0 => ?_
 refine As Ac rfl (qb rfl (qa rfl (Ad (Ap (As Ac rfl (qL D0 CX rfl ?_))))))
 obtain ⟨v1, a1, h⟩ := bind_some h
 refine AF [] (EV N p0 v1 a1) V6 rfl (qa rfl (Ad (As Ac rfl (qm rfl (CU rfl (Ad ?_))))))
 refine Bd h rfl (fun h => ?_) fun h => ?_
 ·refine As Ac rfl (qm rfl (qa rfl (Ad ?_)))
  obtain rfl := sj h
  refine Ak (sm [] [(4, iD v1)] [] rfl rfl) (Ax ?_)
  exact ⟨⟨[_], ⟨.tmp _ _ rfl, tv⟩, rfl⟩, tv⟩
 ·refine Ao (As Ac rfl (qL D0 CX rfl ?_))
  obtain ⟨v3, a3, h⟩ := bind_some h
  refine AF [2001] (IX N p0 v3 a3) au rfl (qa rfl (Ad (Ap (As Ac rfl (qm rfl (AZ AT rfl (qm rfl (Ad ?_))))))))
  refine AB (L := GT N p1 v3) h (fun v4 => mk [(6, oD (.own 2002)), (16, pD (.sl (p1.map Ab))), (17, iD ((p1.length : Int))), (18, iD v4)] [(2002, .vec 3 (v3.map Ab))]) (fun v5 => mk [] []) (fun _ _ => rfl) (sm [(2002, 2001)] _ _ rfl rfl) (fun j4 n4 v4 h => ?_) (fun v5 s h hs => ?_)
  ·unfold GT at h
   refine As Ac rfl (A0 rfl (Ad (Ap ?_)))
   refine Bd h rfl (fun h => ?_) fun h => ?_
   ·refine Ao (Ap (AL (As Ac rfl ?_)))
    obtain ⟨v7, a7, b7, h⟩ := Ah h
    refine qi AT AQ a7 (Af b7) rfl (qK Du AQ rfl (qz HV rfl (qs AQ rfl (Ad (As Ac rfl (qm rfl (qL Du AQ rfl ?_)))))))
    obtain ⟨v8, a8, h⟩ := bind_some h
    refine Fz [] [2002] (G4 N v3 v7 v8 a8) dH DE rfl (CQ rfl (Ad ?_))
    refine Bd h rfl (fun h => ?_) fun h => ?_
    ·refine As Ac rfl (qa rfl (Ad ?_))
     obtain rfl := sj h
     refine Ak (sm [] [(4, iD 4)] [] rfl rfl) (Ax ?_)
     exact ⟨⟨[_], ⟨.tmp _ _ rfl, tv⟩, rfl⟩, tv⟩
    ·refine Ao (Aj Ac rfl (AW rfl (qm rfl (Ad ?_))))
     exact sn [] h
   ·refine AV ?_
    exact sn [] h
  ·refine Ak hs (As Ac rfl (qa rfl (Ad ?_)))
   obtain rfl := sj h
   refine Ak (sm [] [(4, iD 0)] [] rfl rfl) (Ax ?_)
   exact ⟨⟨[_], ⟨.tmp _ _ rfl, tv⟩, rfl⟩, tv⟩
theorem Fm (N : Nat) (p0 : List Aa) (r : (List Aa)) (h : CA N p0 = some r) : Ay Tryz.prog 15 [pD (.sl (p0.map Ab))] [(3, r.map Ab)] (oD (.own 0)) := by
 unfold CA at h
 refine An (n := 8) (rs := [.tmp 2]) Tryz.func15 rfl rfl rfl (A2 rfl) (A2 rfl) rfl fun w0 S0 => ?_
 refine As Ac rfl (qa rfl (Ad (Ap (As Ac rfl (qm rfl ?_)))))
 refine Nq (.p rfl) rfl AT ?_
 refine Ad ?_
 refine Nl rfl (fun c2 => ?_) ?_
 ·have c2 := List.map_eq_nil_iff.1 c2
  rw [c2] at h
  have h : (some (([] : List Aa))) = some r := h
  refine As Ac rfl (qa rfl (Ad ?_))
  obtain rfl := sj h
  refine Ak ((Bl 2 2001 3 rfl rfl rfl).trans (sm [(1000, 2001)] [(2, oD (.own 1000))] [(1000, .vec 3 ((([] : List Aa)).map Ab))] rfl rfl)) (Ax ?_)
  exact ⟨⟨[_], ⟨.tmp _ _ rfl, tv⟩, rfl⟩, ⟨rfl, tv⟩⟩
 ·refine Ao (As Ac rfl (E2 AT AQ HV rfl (qm rfl ?_)))
  obtain ⟨c1, h⟩ := AD h
  refine HM (f := Ab) AT AT AQ OQ HV (fun _ => rfl) c1 rfl (qa rfl (Ad ?_))
  obtain rfl := sj h
  refine Ak (sm [(1000, 7)] [(2, oD (.own 1000))] [(1000, .vec 3 (((([] : List Aa)) ++ p0).map Ab))] rfl rfl) (Ax ?_)
  exact ⟨⟨[_], ⟨.tmp _ _ rfl, tv⟩, rfl⟩, ⟨rfl, tv⟩⟩
theorem Np (N : Nat) (p0 : Int) (r : Int) (h : Iv N p0 = some r) : Ay Tryz.prog 105 [pD (.val (.int .u32 p0))] [] (iD r) := by
 unfold Iv at h
 refine An (n := 19) (rs := [.tmp 2]) Tryz.func105 rfl rfl rfl (A2 rfl) (A2 rfl) rfl fun w0 S0 => ?_
 refine As Ac rfl (qa rfl (Ad ?_))
 refine AU h (fun v1 => mk [(0, pD (.val (.int .u32 v1.1))), (2, iD v1.2)] []) (fun j1 h => ?_) (fun v1 h => ?_)
 ·refine As Ac rfl (qm rfl (Ee rfl (Ad ?_)))
  refine Bd h rfl (fun h => ?_) fun h => ?_
  ·refine As Ac rfl (qm rfl (IK rfl (by decide) (qa rfl (Ad (Aj Ac rfl (qa rfl (Ad ?_)))))))
   exact sn [] h
  ·refine Ao ?_
   exact sn [] h
 ·refine AU h (fun v3 => mk [(0, pD (.val (.int .u32 v3.1))), (2, iD v3.2)] []) (fun j3 h => ?_) (fun v3 h => ?_)
  ·refine As Ac rfl (qm rfl (Ee rfl (Ad ?_)))
   refine Bd h rfl (fun h => ?_) fun h => ?_
   ·refine As Ac rfl (qm rfl (IK rfl (by decide) (qa rfl (Ad (Aj Ac rfl (qm rfl (AW rfl (qa rfl (Ad ?_)))))))))
    exact sn [] h
   ·refine Ao ?_
    exact sn [] h
  ·refine As Ac rfl (qm rfl (qm rfl (I3 TY dg rfl ?_)))
   obtain ⟨v5, a5, h⟩ := bind_some h
   refine On (.p rfl) rfl rfl Y5 a5 ?_
   refine I3 ZU Yb rfl (AW rfl (qa rfl (Ad ?_)))
   obtain rfl := sj h
   refine Ak (sm [] [(2, iD ((wI .i64 (v3.2 + (wI .i64 v5)))))] [] rfl rfl) (Ax ?_)
   exact ⟨⟨[_], ⟨.tmp _ _ rfl, tv⟩, rfl⟩, tv⟩
theorem NG (N : Nat) (p0 : Int) (r : Int) (h : Io N p0 = some r) : Ay Tryz.prog 106 [pD (.val (.int .u64 p0))] [] (iD r) := by
 unfold Io at h
 refine An (n := 25) (rs := [.tmp 2]) Tryz.func106 rfl rfl rfl (A2 rfl) (A2 rfl) rfl fun w0 S0 => ?_
 refine As Ac rfl (qa rfl (Ad ?_))
 refine AU h (fun v1 => mk [(0, pD (.val (.int .u64 v1.1))), (2, iD v1.2)] []) (fun j1 h => ?_) (fun v1 h => ?_)
 ·refine As Ac rfl (qm rfl (Ee rfl (Ad ?_)))
  refine Bd h rfl (fun h => ?_) fun h => ?_
  ·refine As Ac rfl (qm rfl (IK rfl (by decide) (qa rfl (Ad (Aj Ac rfl (qa rfl (Ad ?_)))))))
   exact sn [] h
  ·refine Ao ?_
   exact sn [] h
 ·refine AU h (fun v3 => mk [(0, pD (.val (.int .u64 v3.1))), (2, iD v3.2)] []) (fun j3 h => ?_) (fun v3 h => ?_)
  ·refine As Ac rfl (qm rfl (Ee rfl (Ad ?_)))
   refine Bd h rfl (fun h => ?_) fun h => ?_
   ·refine As Ac rfl (qm rfl (IK rfl (by decide) (qa rfl (Ad (Aj Ac rfl (qm rfl (AW rfl (qa rfl (Ad ?_)))))))))
    exact sn [] h
   ·refine Ao ?_
    exact sn [] h
  ·refine AU h (fun v5 => mk [(0, pD (.val (.int .u64 v5.1))), (2, iD v5.2)] []) (fun j5 h => ?_) (fun v5 h => ?_)
   ·refine As Ac rfl (qm rfl (Ee rfl (Ad ?_)))
    refine Bd h rfl (fun h => ?_) fun h => ?_
    ·refine As Ac rfl (qm rfl (IK rfl (by decide) (qa rfl (Ad (Aj Ac rfl (qm rfl (AW rfl (qa rfl (Ad ?_)))))))))
     exact sn [] h
    ·refine Ao ?_
     exact sn [] h
   ·refine As Ac rfl (qm rfl (qm rfl (I3 X5 dg rfl ?_)))
    obtain ⟨v7, a7, h⟩ := bind_some h
    refine On (.p rfl) rfl rfl Y5 a7 ?_
    refine I3 ZU Yb rfl (AW rfl (qa rfl (Ad ?_)))
    obtain rfl := sj h
    refine Ak (sm [] [(2, iD ((wI .i64 (v5.2 + (wI .i64 v7)))))] [] rfl rfl) (Ax ?_)
    exact ⟨⟨[_], ⟨.tmp _ _ rfl, tv⟩, rfl⟩, tv⟩
theorem LA (N : Nat) (p0 : Int) (r : Int) (h : HR N p0 = some r) : Ay Tryz.prog 71 [pD (.val (.int .u64 p0))] [] (iD r) := by
 unfold HR at h
 refine An (n := 8) (rs := [.tmp 2]) Tryz.func71 rfl rfl rfl (A2 rfl) (A2 rfl) rfl fun w0 S0 => ?_
 refine As Ac rfl (qa rfl (Ad (Ap ?_)))
 refine Bd h rfl (fun h => ?_) fun h => ?_
 ·refine As Ac rfl (qm rfl (I3 Um T8 rfl ?_))
  obtain ⟨v2, a2, h⟩ := bind_some h
  refine AF [] (Np N ((wI .u32 p0)) v2 a2) cJ rfl (qa rfl (Ad ?_))
  obtain rfl := sj h
  refine Ak (sm [] [(2, iD v2)] [] rfl rfl) (Ax ?_)
  exact ⟨⟨[_], ⟨.tmp _ _ rfl, tv⟩, rfl⟩, tv⟩
 ·refine Ao (As Ac rfl (qm rfl ?_))
  obtain ⟨v3, a3, h⟩ := bind_some h
  refine AF [] (NG N p0 v3 a3) ci rfl (qa rfl (Ad ?_))
  obtain rfl := sj h
  refine Ak (sm [] [(2, iD v3)] [] rfl rfl) (Ax ?_)
  exact ⟨⟨[_], ⟨.tmp _ _ rfl, tv⟩, rfl⟩, tv⟩
theorem Hc (N : Nat) (p0 : List Aa) (p1 : Int) (p2 : Int) (p3 : (Aa × Aa) → Option Int) (r : (List Aa)) (h : Dt N p0 p1 p2 p3 = some r) : BV Tryz.prog 97 [oD (.own 90000), iD p1, iD p2, oD (.clo (Cy (Gq true Ab true Ab) C7 p3))] [(.vec 3 (p0.map Ab), .vec 3 (r.map Ab))] [] (.tup []) := by
 unfold Dt at h
 refine Bk (n := 53) (rs := []) Tryz.func97 rfl rfl rfl (A2 rfl) (A2 rfl) rfl rfl (A2 rfl) rfl (A2 rfl) fun w0 S0 GL => O5 ?_
 refine Ak (sm [] [(0, oD (.own 90000)), (1, iD p1), (2, iD p2), (3, oD (.clo (Cy (Gq true Ab true Ab) C7 p3)))] [(90000, .vec 3 (p0.map Ab))] rfl rfl) (As Ac rfl (qm rfl (AW rfl (qa rfl (Ad ?_)))))
 refine AB (L := B0 N p1 p2 p3) h (fun v1 => mk [(0, oD (.own 90000)), (1, iD p1), (2, iD p2), (3, oD (.clo (Cy (Gq true Ab true Ab) C7 p3))), (8, iD v1.2)] [(90000, .vec 3 (v1.1.map Ab))]) (fun v2 => mk [] [(90000, .vec 3 (v2.map Ab))]) (fun _ _ => rfl) (sm [] _ _ rfl rfl) (fun j1 n1 v1 h => ?_) (fun v2 s h hs => ?_)
 ·unfold B0 at h
  refine Ap (As Ac rfl (qm rfl (qm rfl (A0 rfl (Ad ?_)))))
  refine Bd h rfl (fun h => ?_) fun h => ?_
  ·refine Ao (Ap (AL (As Ac rfl (qm rfl (qa rfl (Ad ?_))))))
   refine AB (L := B3 N p1 p3) h (fun v4 => mk [(0, oD (.own 90000)), (1, iD p1), (2, iD p2), (3, oD (.clo (Cy (Gq true Ab true Ab) C7 p3))), (8, iD v1.2), (9, iD v4.2)] [(90000, .vec 3 (v4.1.map Ab))]) (fun v5 => mk [(0, oD (.own 90000)), (1, iD p1), (2, iD p2), (3, oD (.clo (Cy (Gq true Ab true Ab) C7 p3))), (8, iD v1.2)] [(90000, .vec 3 (v5.map Ab))]) (fun _ _ => rfl) (sm [] _ _ rfl rfl) (fun j4 n4 v4 h => ?_) (fun v5 s h hs => ?_)
   ·unfold B3 at h
    refine Ap ?_
    refine AU h (fun v6 => mk [(0, oD (.own 90000)), (1, iD p1), (2, iD p2), (3, oD (.clo (Cy (Gq true Ab true Ab) C7 p3))), (8, iD v1.2), (9, iD v4.2), (34, bD v6)] [(90000, .vec 3 (v4.1.map Ab))]) (fun j6 h => ?_) (fun v6 h => ?_)
    ·refine Aj Ac rfl (qm rfl (qm rfl (Gt rfl (qm rfl ?_))))
     refine E1 21 h rfl (fun h => ?_) fun h => ?_
     ·refine qm rfl (qm rfl (qm rfl ?_))
      obtain ⟨v8, a8, b8, h⟩ := Ah h
      refine qI AT AQ a8 (Af b8) rfl (qJ Du AQ (Af b8) rfl (qm rfl (qm rfl (Di rfl ?_))))
      obtain ⟨v9, a9, b9, h⟩ := Ah h
      refine qI AT AQ a9 (Af b9) rfl (qJ Du AQ (Af b9) rfl ?_)
      obtain ⟨v10, a10, h⟩ := bind_some h
      refine F6 (ds0 := [_, _]) (ar := (Gq true Ab true Ab) ((v8, v9))) (.g rfl rfl) rfl rfl ⟨rfl, rfl, tv⟩ rfl rfl rfl (F3 (Hx _ _ _ _ A5 A5) a10) ?_
      refine A0 rfl (qp rfl (AJ (by kernel_rfl) ?_))
      exact sn [] h
     ·refine qn rfl (qn rfl (qn rfl (qn rfl (qn rfl (qn rfl (qn rfl (qn rfl (qn rfl (qn rfl (qn rfl (qn rfl (qp rfl (AJ (by kernel_rfl) ?_)))))))))))))
      exact sn [] h
    ·refine Bd h rfl (fun h => ?_) fun h => ?_
     ·refine Ao (Ap (AL (Aj Ac rfl (qm rfl (qm rfl (qm rfl (qm rfl (Di rfl (qm rfl (qm rfl (Di rfl ?_)))))))))))
      obtain ⟨v12, a12, b12, h⟩ := Ah h
      refine qI AT AQ a12 (Af b12) rfl (qJ Du AQ (Af b12) rfl (qm rfl (qm rfl ?_)))
      obtain ⟨v13, a13, b13, h⟩ := Ah h
      refine qI AT AQ a13 (Af b13) rfl (qJ Du AQ (Af b13) rfl ?_)
      obtain ⟨v14, a14, b14, h⟩ := Ah h
      refine qI AT AQ a14 (Af b14) rfl ?_
      refine A9 rfl rfl rfl rfl (Af b14) rfl AQ rfl (A2 rfl) (A6 Ab v4.1 _ v12) ?_
      obtain ⟨v15, a15, b15, h⟩ := Ah h
      refine qI AT AQ a15 (Af b15) rfl ?_
      refine A9 rfl rfl rfl rfl (Af b15) rfl AQ rfl (A2 rfl) (A6 Ab (v4.1.set ((v4.2).toNat) v12) _ v13) ?_
      refine AJ (by kernel_rfl) (Aj Ac rfl (qm rfl (Di rfl (qa rfl (Ad ?_)))))
      exact sn [] h
     ·refine AV ?_
      exact sn [] h
   ·refine Ak hs (Aj Ac rfl (qm rfl (AW rfl (qa rfl (Ad ?_)))))
    exact sn [] h
  ·refine AV ?_
   exact sn [] h
 ·obtain rfl := sj h
  refine ⟨_, hs.trans (sm [] [] [(90000, .vec 3 (v2.map Ab))] rfl rfl), ?_⟩
  exact ⟨⟨[], tv, rfl⟩, ⟨rfl, tv⟩, tv⟩
theorem FR (N : Nat) (p0 : List Aa) (p1 : Int) (p2 : Int) (p3 : Int) (p4 : (Aa × Aa) → Option Int) (r : (List Aa)) (h : C3 N p0 p1 p2 p3 p4 = some r) : BV Tryz.prog 132 [oD (.own 90000), iD p1, iD p2, iD p3, oD (.clo (Cy (Gq true Ab true Ab) C7 p4))] [(.vec 3 (p0.map Ab), .vec 3 (r.map Ab))] [] (.tup []) := by
 unfold C3 at h
 refine Bk (n := 82) (rs := []) Tryz.func132 rfl rfl rfl (A2 rfl) (A2 rfl) rfl rfl (A2 rfl) rfl (A2 rfl) fun w0 S0 GL => O5 ?_
 refine Ak (sm [] [(0, oD (.own 90000)), (1, iD p1), (2, iD p2), (3, iD p3), (4, oD (.clo (Cy (Gq true Ab true Ab) C7 p4)))] [(90000, .vec 3 (p0.map Ab))] rfl rfl) (As Ac rfl (qm rfl (qa rfl (Ad ?_))))
 refine AB (L := CC N p2 p3 p4) h (fun v1 => mk [(0, oD (.own 90000)), (2, iD p2), (3, iD p3), (4, oD (.clo (Cy (Gq true Ab true Ab) C7 p4))), (10, iD v1.2)] [(90000, .vec 3 (v1.1.map Ab))]) (fun v2 => mk [] [(90000, .vec 3 (v2.map Ab))]) (fun _ _ => rfl) (sm [] _ _ rfl rfl) (fun j1 n1 v1 h => ?_) (fun v2 s h hs => ?_)
 ·unfold CC at h
  refine AL (As Ac rfl (qm rfl (J3 rfl (AW rfl (qa rfl (Ad (Ap (As Ac rfl (qm rfl (qm rfl (Ee rfl (Ad ?_))))))))))))
  refine Bd h rfl (fun h => ?_) fun h => ?_
  ·refine AV ?_
   exact sn [] h
  ·refine Ao ?_
   refine AU h (fun v4 => mk [(0, oD (.own 90000)), (2, iD p2), (3, iD p3), (4, oD (.clo (Cy (Gq true Ab true Ab) C7 p4))), (10, iD v1.2), (11, iD v4)] [(90000, .vec 3 (v1.1.map Ab))]) (fun j4 h => ?_) (fun v4 h => ?_)
   ·refine AU h (fun v5 => mk [(0, oD (.own 90000)), (2, iD p2), (3, iD p3), (4, oD (.clo (Cy (Gq true Ab true Ab) C7 p4))), (10, iD v1.2), (11, iD ((wI .i64 ((wI .i64 (2 * v1.2)) + 1)))), (40, bD v5)] [(90000, .vec 3 (v1.1.map Ab))]) (fun j5 h => ?_) (fun v5 h => ?_)
    ·refine Aj Ac rfl (qm rfl (AW rfl (qm rfl (A0 rfl (qm rfl ?_)))))
     refine E1 23 h rfl (fun h => ?_) fun h => ?_
     ·refine qm rfl (qm rfl (qm rfl (qm rfl (AW rfl ?_))))
      obtain ⟨v7, a7, b7, h⟩ := Ah h
      refine qI AT AQ a7 (Af b7) rfl (qJ Du AQ (Af b7) rfl (qm rfl (qm rfl (qm rfl (AW rfl (AW rfl ?_))))))
      obtain ⟨v8, a8, b8, h⟩ := Ah h
      refine qI AT AQ a8 (Af b8) rfl (qJ Du AQ (Af b8) rfl ?_)
      obtain ⟨v9, a9, h⟩ := bind_some h
      refine F6 (ds0 := [_, _]) (ar := (Gq true Ab true Ab) ((v7, v8))) (.g rfl rfl) rfl rfl ⟨rfl, rfl, tv⟩ rfl rfl rfl (F3 (Hx _ _ _ _ A5 A5) a9) ?_
      refine A0 rfl (qp rfl (AJ (by kernel_rfl) ?_))
      exact sn [] h
     ·refine qn rfl (qn rfl (qn rfl (qn rfl (qn rfl (qn rfl (qn rfl (qn rfl (qn rfl (qn rfl (qn rfl (qn rfl (qn rfl (qn rfl (qn rfl (qn rfl (qp rfl (AJ (by kernel_rfl) ?_)))))))))))))))))
      exact sn [] h
    ·refine Bd h rfl (fun h => ?_) fun h => ?_
     ·refine Aj Ac rfl (qm rfl (AW rfl (qa rfl (Ad ?_))))
      exact sn [] h
     ·refine Ao ?_
      exact sn [] h
   ·refine Ap (As Ac rfl (qm rfl (qm rfl (qm rfl (qm rfl (AW rfl ?_))))))
    obtain ⟨v11, a11, b11, h⟩ := Ah h
    refine qI AT AQ a11 (Af b11) rfl (qJ Du AQ (Af b11) rfl (qm rfl (qm rfl (qm rfl (AW rfl ?_)))))
    obtain ⟨v12, a12, b12, h⟩ := Ah h
    refine qI AT AQ a12 (Af b12) rfl (qJ Du AQ (Af b12) rfl ?_)
    obtain ⟨v13, a13, h⟩ := bind_some h
    refine F6 (ds0 := [_, _]) (ar := (Gq true Ab true Ab) ((v11, v12))) (.p rfl) rfl rfl ⟨rfl, rfl, tv⟩ rfl rfl rfl (F3 (Hx _ _ _ _ A5 A5) a13) ?_
    refine A0 rfl (CQ rfl (AJ (by kernel_rfl) ?_))
    refine Bd h rfl (fun h => ?_) fun h => ?_
    ·obtain rfl := sj h
     refine Ax ⟨_, (sm [] [] [(90000, .vec 3 (v1.1.map Ab))] rfl rfl), ?_⟩
     exact ⟨⟨[], tv, rfl⟩, ⟨rfl, tv⟩, tv⟩
    ·refine Ao (As Ac rfl (qm rfl (qm rfl (qm rfl (AW rfl (qm rfl (qm rfl (qm rfl (AW rfl (qm rfl (qm rfl (qm rfl (AW rfl ?_)))))))))))))
     obtain ⟨v15, a15, b15, h⟩ := Ah h
     refine qI AT AQ a15 (Af b15) rfl (qJ Du AQ (Af b15) rfl (qm rfl (qm rfl (qm rfl (AW rfl ?_)))))
     obtain ⟨v16, a16, b16, h⟩ := Ah h
     refine qI AT AQ a16 (Af b16) rfl (qJ Du AQ (Af b16) rfl ?_)
     obtain ⟨v17, a17, b17, h⟩ := Ah h
     refine qI AT AQ a17 (Af b17) rfl ?_
     refine A9 rfl rfl rfl rfl (Af b17) rfl AQ rfl (A2 rfl) (A6 Ab v1.1 _ v15) ?_
     obtain ⟨v18, a18, b18, h⟩ := Ah h
     refine qI AT AQ a18 (Af b18) rfl ?_
     refine A9 rfl rfl rfl rfl (Af b18) rfl AQ rfl (A2 rfl) (A6 Ab (v1.1.set (((wI .i64 (p3 + v1.2))).toNat) v15) _ v16) ?_
     refine AJ (by kernel_rfl) (Aj Ac rfl (qm rfl (qa rfl (Ad ?_))))
     exact sn [] h
 ·obtain rfl := sj h
  refine ⟨_, hs.trans (sm [] [] [(90000, .vec 3 (v2.map Ab))] rfl rfl), ?_⟩
  exact ⟨⟨[], tv, rfl⟩, ⟨rfl, tv⟩, tv⟩
theorem HW (N : Nat) (p0 : List Aa) (p1 : Int) (p2 : Int) (p3 : (Aa × Aa) → Option Int) (r : (List Aa)) (h : Eb N p0 p1 p2 p3 = some r) : BV Tryz.prog 98 [oD (.own 90000), iD p1, iD p2, oD (.clo (Cy (Gq true Ab true Ab) C7 p3))] [(.vec 3 (p0.map Ab), .vec 3 (r.map Ab))] [] (.tup []) := by
 unfold Eb at h
 refine Bk (n := 60) (rs := []) Tryz.func98 rfl rfl rfl (A2 rfl) (A2 rfl) rfl rfl (A2 rfl) rfl (A2 rfl) fun w0 S0 GL => O5 ?_
 refine Ak (sm [] [(0, oD (.own 90000)), (1, iD p1), (2, iD p2), (3, oD (.clo (Cy (Gq true Ab true Ab) C7 p3)))] [(90000, .vec 3 (p0.map Ab))] rfl rfl) (As Ac rfl (qm rfl (qa rfl (Ad (As Ac rfl (qa rfl (Ad (As Ac rfl (qm rfl (qm rfl (Di rfl (qa rfl (Ad (Ap (As Ac rfl (qm rfl (Di rfl (PU rfl (by decide) (qa rfl (Ad ?_))))))))))))))))))))
 refine AB (L := CD N p1 p2 p3) h (fun v1 => mk [(0, oD (.own 90000)), (3, oD (.clo (Cy (Gq true Ab true Ab) C7 p3))), (8, iD p1), (9, iD 0), (10, iD ((wI .i64 (p2 - p1)))), (11, iD v1.2)] [(90000, .vec 3 (v1.1.map Ab))]) (fun v2 => mk [(0, oD (.own 90000)), (3, oD (.clo (Cy (Gq true Ab true Ab) C7 p3))), (8, iD p1), (9, iD 0), (10, iD ((wI .i64 (p2 - p1))))] [(90000, .vec 3 (v2.map Ab))]) (fun _ _ => rfl) (sm [] _ _ rfl rfl) (fun j1 n1 v1 h => ?_) (fun v2 s h hs => ?_)
 ·unfold CD at h
  refine Ap (As Ac rfl (qm rfl (Ee rfl (Ad ?_))))
  refine Bd h rfl (fun h => ?_) fun h => ?_
  ·refine Ao (Ap (AL (Aj Ac rfl (qm rfl (qm rfl (qm rfl (qm rfl (qm rfl ?_))))))))
   obtain ⟨v4, a4, h⟩ := bind_some h
   refine DO (ds0 := [_, _, _, _, _]) [90000] [] [true] (FR N v1.1 v1.2 ((wI .i64 (p2 - p1))) p1 p3 v4 a4) (.p rfl) ZQ rfl ⟨rfl, rfl, rfl, rfl, rfl, tv⟩ rfl rfl (by decide) ⟨rfl, tv⟩ rfl (Bf rfl) tv ⟨(fun h => by cases h), tv⟩ rfl rfl rfl ?_
   refine Ad (Aj Ac rfl (qm rfl (Di rfl (qa rfl (Ad ?_)))))
   exact sn [] h
  ·refine AV ?_
   exact sn [] h
 ·refine Ak hs (As Ac rfl (qm rfl (Di rfl (qa rfl (Ad ?_)))))
  refine AB (L := CB N p1 p3) h (fun v5 => mk [(0, oD (.own 90000)), (3, oD (.clo (Cy (Gq true Ab true Ab) C7 p3))), (8, iD p1), (9, iD 0), (12, iD v5.2)] [(90000, .vec 3 (v5.1.map Ab))]) (fun v6 => mk [] [(90000, .vec 3 (v6.map Ab))]) (fun _ _ => rfl) (sm [] _ _ rfl rfl) (fun j5 n5 v5 h => ?_) (fun v6 s h hs => ?_)
  ·unfold CB at h
   refine Ap (As Ac rfl (qm rfl (Ee rfl (Ad ?_))))
   refine Bd h rfl (fun h => ?_) fun h => ?_
   ·refine Ao (Ap (AL (As Ac rfl (qm rfl (qm rfl (qm rfl (qm rfl (qm rfl (AW rfl (qm rfl (qm rfl (qm rfl (AW rfl ?_)))))))))))))
    obtain ⟨v8, a8, b8, h⟩ := Ah h
    refine qI AT AQ a8 (Af b8) rfl (qJ Du AQ (Af b8) rfl (qm rfl (qm rfl ?_)))
    obtain ⟨v9, a9, b9, h⟩ := Ah h
    refine qI AT AQ a9 (Af b9) rfl (qJ Du AQ (Af b9) rfl ?_)
    obtain ⟨v10, a10, b10, h⟩ := Ah h
    refine qI AT AQ a10 (Af b10) rfl ?_
    refine A9 rfl rfl rfl rfl (Af b10) rfl AQ rfl (A2 rfl) (A6 Ab v5.1 _ v8) ?_
    obtain ⟨v11, a11, b11, h⟩ := Ah h
    refine qI AT AQ a11 (Af b11) rfl ?_
    refine A9 rfl rfl rfl rfl (Af b11) rfl AQ rfl (A2 rfl) (A6 Ab (v5.1.set ((p1).toNat) v8) _ v9) ?_
    refine AJ (by kernel_rfl) (Aj Ac rfl (qm rfl (qm rfl (qm rfl (qm rfl (qm rfl ?_))))))
    obtain ⟨v12, a12, h⟩ := bind_some h
    refine DO (ds0 := [_, _, _, _, _]) [90000] [] [true] (FR N ((v5.1.set ((p1).toNat) v8).set (((wI .i64 (p1 + v5.2))).toNat) v9) 0 v5.2 p1 p3 v12 a12) (.p rfl) ZQ rfl ⟨rfl, rfl, rfl, rfl, rfl, tv⟩ rfl rfl (by decide) ⟨rfl, tv⟩ rfl (Bf rfl) tv ⟨(fun h => by cases h), tv⟩ rfl rfl rfl ?_
    refine Ad (Aj Ac rfl (qm rfl (Di rfl (qa rfl (Ad ?_)))))
    exact sn [] h
   ·refine AV ?_
    exact sn [] h
  ·obtain rfl := sj h
   refine ⟨_, hs.trans (sm [] [] [(90000, .vec 3 (v6.map Ab))] rfl rfl), ?_⟩
   exact ⟨⟨[], tv, rfl⟩, ⟨rfl, tv⟩, tv⟩
theorem KY (N : Nat) (p0 : Int) (r : Int) (h : GM N p0 = some r) : Ay Tryz.prog 133 [iD p0] [] (pD (.val (.int .u64 r))) := by
 unfold GM at h
 refine An (n := 7) (rs := [.tmp 2]) Tryz.func133 rfl rfl rfl (A2 rfl) (A2 rfl) rfl fun w0 S0 => ?_
 refine As Ac rfl (qa rfl (Ad (As Ac rfl (qm rfl (I3 aF Rm rfl ?_)))))
 obtain ⟨v1, a1, h⟩ := bind_some h
 refine AF [] (LA N ((wI .u64 p0)) v1 a1) cB rfl ?_
 obtain ⟨c2, h⟩ := AD h
 refine Jr rfl c2 (qa rfl (Ad ?_))
 obtain rfl := sj h
 refine Ak (sm [] [(2, pD (.val (.int .u64 ((Dp .u64 1 v1)))))] [] rfl rfl) (Ax ?_)
 exact ⟨⟨[_], ⟨.tmp _ _ rfl, tv⟩, rfl⟩, tv⟩
theorem Lv (N : Nat) (p0 : Int) (r : Int × Int) (h : GU N p0 = some r) : BV Tryz.prog 134 [oD (.ptr 90000 0)] [(.box [.pure (.val (.int .u64 p0))], .box [.pure (.val (.int .u64 r.2))])] [] (pD (.val (.int .u64 r.1))) := by
 unfold GU at h
 refine Bk (n := 33) (rs := [.tmp 2]) Tryz.func134 rfl rfl rfl (A2 rfl) (A2 rfl) rfl rfl (A2 rfl) rfl (A2 rfl) fun w0 S0 GL => ?_
 refine Ak (sm [] [(0, oD (.ptr 90000 0))] [(90000, .box [.pure (.val (.int .u64 p0))])] rfl rfl) (As Ac rfl (qa rfl (Ad (As Ac rfl (qm rfl (QU rfl (ql PA rfl (qm rfl (QU rfl (ql PA rfl (Jr rfl (by decide) (Xy rfl (QU rfl (qs VK rfl (AJ (by kernel_rfl) (As Ac rfl (qm rfl (QU rfl (ql PA rfl (qm rfl (QU rfl (ql PA rfl (IK rfl (by decide) (Xy rfl (QU rfl (qs VK rfl (AJ (by kernel_rfl) (As Ac rfl (qm rfl (QU rfl (ql PA rfl (qm rfl (QU rfl (ql PA rfl (Jr rfl (by decide) ?_)))))))))))))))))))))))))))))))))))
 refine Xy rfl (QU rfl (qs VK rfl (AJ (by kernel_rfl) (As Ac rfl (qm rfl (QU rfl (ql PA rfl (qa rfl (Ad ?_)))))))))
 obtain rfl := sj h
 refine Ak (sm [] [(2, pD (.val (.int .u64 ((Is .u64 ((Is .u64 ((Is .u64 p0 ((Dp .u64 p0 13)))) ((FE .u64 ((Is .u64 p0 ((Dp .u64 p0 13)))) 7)))) ((Dp .u64 ((Is .u64 ((Is .u64 p0 ((Dp .u64 p0 13)))) ((FE .u64 ((Is .u64 p0 ((Dp .u64 p0 13)))) 7)))) 17)))))))] [(90000, .box [.pure (.val (.int .u64 ((Is .u64 ((Is .u64 ((Is .u64 p0 ((Dp .u64 p0 13)))) ((FE .u64 ((Is .u64 p0 ((Dp .u64 p0 13)))) 7)))) ((Dp .u64 ((Is .u64 ((Is .u64 p0 ((Dp .u64 p0 13)))) ((FE .u64 ((Is .u64 p0 ((Dp .u64 p0 13)))) 7)))) 17))))))])] rfl rfl) (Ax ?_)
 exact ⟨⟨[_], ⟨.tmp _ _ rfl, tv⟩, rfl⟩, ⟨rfl, tv⟩, tv⟩
theorem G9 (N : Nat) (p0 : List Aa) (p1 : Int) (p2 : Int) (p3 : (Aa × Aa) → Option Int) (r : (List Aa)) (h : Dx N p0 p1 p2 p3 = some r) : BV Tryz.prog 99 [oD (.own 90000), iD p1, iD p2, oD (.clo (Cy (Gq true Ab true Ab) C7 p3))] [(.vec 3 (p0.map Ab), .vec 3 (r.map Ab))] [] (.tup []) := by
 unfold Dx at h
 refine Bk (n := 67) (rs := []) Tryz.func99 rfl rfl rfl (A2 rfl) (A2 rfl) rfl rfl (A2 rfl) rfl (A2 rfl) fun w0 S0 GL => O5 ?_
 refine Ak (sm [] [(0, oD (.own 90000)), (1, iD p1), (2, iD p2), (3, oD (.clo (Cy (Gq true Ab true Ab) C7 p3)))] [(90000, .vec 3 (p0.map Ab))] rfl rfl) (As Ac rfl (qm rfl (qm rfl (Di rfl (qa rfl (Ad (As Ac rfl (qm rfl (Ee rfl (Ad ?_))))))))))
 refine Bd h rfl (fun h => ?_) fun h => ?_
 ·refine As Ac rfl (qm rfl (I3 aF bM rfl (qz db rfl (qs VK rfl (Ad (As Ac rfl (qm rfl ?_)))))))
  obtain ⟨v2, a2, h⟩ := bind_some h
  refine AF [] (KY N ((wI .i64 (p2 - p1))) v2 a2) cY rfl (qa rfl (Ad (As Ac rfl (qm rfl (qm rfl (PU rfl (by decide) (J3 rfl (AW rfl (Di rfl (qa rfl (Ad ?_)))))))))))
  refine AB (L := B2 N p1 p2 v2) h (fun v3 => mk [(0, oD (.own 90000)), (1, iD p1), (8, iD ((wI .i64 (p2 - p1)))), (9, oD (.ptr 9 0)), (10, pD (.val (.int .u64 v2))), (11, iD v3.2.2)] [(9, .box [.pure (.val (.int .u64 v3.2.1))]), (90000, .vec 3 (v3.1.map Ab))]) (fun v4 => mk [] [(90000, .vec 3 (v4.map Ab))]) (fun _ _ => rfl) (sm [] _ _ rfl rfl) (fun j3 n3 v3 h => ?_) (fun v4 s h hs => ?_)
  ·unfold B2 at h
   refine Ap (As Ac rfl (qm rfl (qm rfl (qm rfl (PU rfl (by decide) (J3 rfl (AW rfl (AW rfl (K0 rfl (Ad ?_))))))))))
   refine Bd h rfl (fun h => ?_) fun h => ?_
   ·refine Ao (Ap (AL (As Ac rfl ?_)))
    obtain ⟨v6, a6, h⟩ := bind_some h
    refine DO (ds0 := [_]) [9] [] [true] (Lv N v3.2.1 v6 a6) (.p rfl) cy rfl ⟨rfl, tv⟩ rfl rfl (by decide) ⟨rfl, tv⟩ rfl (Bf rfl) tv ⟨(fun h => by cases h), tv⟩ rfl rfl rfl ?_
    refine qm rfl (Di rfl (Nz rfl (I3 Um Yb rfl (qa rfl (Ad ?_)))))
    refine AU h (fun v7 => mk [(0, oD (.own 90000)), (1, iD p1), (8, iD ((wI .i64 (p2 - p1)))), (9, oD (.ptr 9 0)), (10, pD (.val (.int .u64 v2))), (11, iD v3.2.2), (12, iD v7)] [(9, .box [.pure (.val (.int .u64 v6.2))]), (90000, .vec 3 (v3.1.map Ab))]) (fun j7 h => ?_) (fun v7 h => ?_)
    ·refine As Ac rfl (qm rfl (qm rfl (Ee rfl (Ad ?_))))
     refine Bd h rfl (fun h => ?_) fun h => ?_
     ·refine Aj Ac rfl (qm rfl (qm rfl (Di rfl (qa rfl (Ad ?_)))))
      exact sn [] h
     ·refine Ao ?_
      exact sn [] h
    ·refine Aj Ac rfl (qm rfl (qm rfl (qm rfl (qm rfl (qm rfl (AW rfl (qm rfl (qm rfl (qm rfl (AW rfl ?_))))))))))
     obtain ⟨v9, a9, b9, h⟩ := Ah h
     refine qI AT AQ a9 (Af b9) rfl (qJ Du AQ (Af b9) rfl (qm rfl (qm rfl ?_)))
     obtain ⟨v10, a10, b10, h⟩ := Ah h
     refine qI AT AQ a10 (Af b10) rfl (qJ Du AQ (Af b10) rfl ?_)
     obtain ⟨v11, a11, b11, h⟩ := Ah h
     refine qI AT AQ a11 (Af b11) rfl ?_
     refine A9 rfl rfl rfl rfl (Af b11) rfl AQ rfl (A2 rfl) (A6 Ab v3.1 _ v9) ?_
     obtain ⟨v12, a12, b12, h⟩ := Ah h
     refine qI AT AQ a12 (Af b12) rfl ?_
     refine A9 rfl rfl rfl rfl (Af b12) rfl AQ rfl (A2 rfl) (A6 Ab (v3.1.set ((v3.2.2).toNat) v9) _ v10) ?_
     refine AJ (by kernel_rfl) (Aj Ac rfl (qm rfl (AW rfl (qa rfl (Ad ?_)))))
     exact sn [] h
   ·refine AV ?_
    exact sn [] h
  ·obtain rfl := sj h
   refine ⟨_, hs.trans (sm [] [] [(90000, .vec 3 (v4.map Ab))] rfl rfl), ?_⟩
   exact ⟨⟨[], tv, rfl⟩, ⟨rfl, tv⟩, tv⟩
 ·refine Ao ?_
  obtain rfl := sj h
  refine ⟨_, (sm [] [] [(90000, .vec 3 (p0.map Ab))] rfl rfl), ?_⟩
  exact ⟨⟨[], tv, rfl⟩, ⟨rfl, tv⟩, tv⟩
theorem EC (N : Nat) (p0 : List Aa) (p1 : Int) (p2 : Int) (p3 : Int) (p4 : (Aa × Aa) → Option Int) (r : Int × Int × Int) (h : Cm N p0 p1 p2 p3 p4 = some r) : BV Tryz.prog 153 [pD (.sl (p0.map Ab)), iD p1, iD p2, oD (.ptr 90000 0), oD (.clo (Cy (Gq true Ab true Ab) C7 p4))] [(.box [iC p3], .box [iC r.2.2])] [] (.tup [.one (iC r.1), .one (iC r.2.1)]) := by
 unfold Cm at h
 refine Bk (n := 32) (rs := [.tmp 10, .tmp 11]) Tryz.func153 rfl rfl rfl (A2 rfl) (A2 rfl) rfl rfl (A2 rfl) rfl (A2 rfl) fun w0 S0 GL => ?_
 refine Ak (sm [] [(0, pD (.sl (p0.map Ab))), (1, iD p1), (2, iD p2), (3, oD (.ptr 90000 0)), (4, oD (.clo (Cy (Gq true Ab true Ab) C7 p4)))] [(90000, .box [iC p3])] rfl rfl) (As Ac rfl (qa rfl (qa rfl (Ad (Ap (As Ac rfl (qm rfl (qm rfl (qm rfl ?_)))))))))
 obtain ⟨v1, a1, b1, h⟩ := Ah h
 refine qi AT AQ a1 (Af b1) rfl (qK Du AQ rfl (qm rfl (qm rfl ?_)))
 obtain ⟨v2, a2, b2, h⟩ := Ah h
 refine qi AT AQ a2 (Af b2) rfl (qK Du AQ rfl ?_)
 obtain ⟨v3, a3, h⟩ := bind_some h
 refine F6 (ds0 := [_, _]) (ar := (Gq true Ab true Ab) ((v1, v2))) (.p rfl) rfl rfl ⟨rfl, rfl, tv⟩ rfl rfl rfl (F3 (Hx _ _ _ _ A5 A5) a3) ?_
 refine A0 rfl (AJ (by kernel_rfl) ?_)
 refine Bd h rfl (fun h => ?_) fun h => ?_
 ·refine As Ac rfl (qm rfl (QU rfl (ql CP rfl (AW rfl (QU rfl (qs En rfl (Ad (As Ac rfl (qm rfl (qm rfl (qa rfl (qa rfl (Ad ?_)))))))))))))
  obtain rfl := sj h
  refine Ak (sm [] [(10, iD p2), (11, iD p1)] [(90000, .box [iC ((wI .i64 (p3 + 1)))])] rfl rfl) (Ax ?_)
  exact ⟨⟨[_, _], ⟨.tmp _ _ rfl, ⟨.tmp _ _ rfl, tv⟩⟩, rfl⟩, ⟨rfl, tv⟩, tv⟩
 ·refine Ao (As Ac rfl (qm rfl (qm rfl (qa rfl (qa rfl (Ad ?_))))))
  obtain rfl := sj h
  refine Ak (sm [] [(10, iD p1), (11, iD p2)] [(90000, .box [iC p3])] rfl rfl) (Ax ?_)
  exact ⟨⟨[_, _], ⟨.tmp _ _ rfl, ⟨.tmp _ _ rfl, tv⟩⟩, rfl⟩, ⟨rfl, tv⟩, tv⟩
theorem F9 (N : Nat) (p0 : List Aa) (p1 : Int) (p2 : Int) (p3 : Int) (p4 : Int) (p5 : (Aa × Aa) → Option Int) (r : Int × Int) (h : Dg N p0 p1 p2 p3 p4 p5 = some r) : BV Tryz.prog 136 [pD (.sl (p0.map Ab)), iD p1, iD p2, iD p3, oD (.ptr 90000 0), oD (.clo (Cy (Gq true Ab true Ab) C7 p5))] [(.box [iC p4], .box [iC r.2])] [] (iD r.1) := by
 unfold Dg at h
 refine Bk (n := 41) (rs := [.tmp 12]) Tryz.func136 rfl rfl rfl (A2 rfl) (A2 rfl) rfl rfl (A2 rfl) rfl (A2 rfl) fun w0 S0 GL => ?_
 refine Ak (sm [] [(0, pD (.sl (p0.map Ab))), (1, iD p1), (2, iD p2), (3, iD p3), (4, oD (.ptr 90000 0)), (5, oD (.clo (Cy (Gq true Ab true Ab) C7 p5)))] [(90000, .box [iC p4])] rfl rfl) (As Ac rfl (qa rfl (Ad (As Ac rfl (qm rfl (qm rfl (qm rfl (qm rfl (qm rfl ?_)))))))))
 obtain ⟨v1, a1, h⟩ := bind_some h
 refine DO (ds0 := [_, _, _, _, _]) [90000] [] [true] (EC N p0 p1 p2 p4 p5 v1 a1) (.p rfl) XG rfl ⟨rfl, rfl, rfl, rfl, rfl, tv⟩ rfl rfl (by decide) ⟨rfl, tv⟩ rfl (Bf rfl) tv ⟨(fun h => by cases h), tv⟩ rfl rfl rfl ?_
 refine qm rfl (qx rfl (qx rfl (qa rfl (qa rfl (Ad (As Ac rfl (qm rfl (qm rfl (qm rfl (qm rfl (qm rfl ?_)))))))))))
 obtain ⟨v2, a2, h⟩ := bind_some h
 refine DO (ds0 := [_, _, _, _, _]) [90000] [] [true] (EC N p0 v1.2.1 p3 v1.2.2 p5 v2 a2) (.p rfl) XG rfl ⟨rfl, rfl, rfl, rfl, rfl, tv⟩ rfl rfl (by decide) ⟨rfl, tv⟩ rfl (Bf rfl) tv ⟨(fun h => by cases h), tv⟩ rfl rfl rfl ?_
 refine qm rfl (qx rfl (qx rfl (qa rfl (qa rfl (Ad (As Ac rfl (qm rfl (qm rfl (qm rfl (qm rfl (qm rfl ?_)))))))))))
 obtain ⟨v3, a3, h⟩ := bind_some h
 refine DO (ds0 := [_, _, _, _, _]) [90000] [] [true] (EC N p0 v1.1 v2.1 v2.2.2 p5 v3 a3) (.p rfl) XG rfl ⟨rfl, rfl, rfl, rfl, rfl, tv⟩ rfl rfl (by decide) ⟨rfl, tv⟩ rfl (Bf rfl) tv ⟨(fun h => by cases h), tv⟩ rfl rfl rfl ?_
 refine qm rfl (qx rfl (qx rfl (qa rfl (qa rfl (Ad (As Ac rfl (qm rfl (qa rfl (Ad ?_)))))))))
 obtain rfl := sj h
 refine Ak (sm [] [(12, iD v3.2.1)] [(90000, .box [iC v3.2.2])] rfl rfl) (Ax ?_)
 exact ⟨⟨[_], ⟨.tmp _ _ rfl, tv⟩, rfl⟩, ⟨rfl, tv⟩, tv⟩
theorem Dw (N : Nat) (p0 : List Aa) (p1 : Int) (p2 : Int) (p3 : (Aa × Aa) → Option Int) (r : Int × Int) (h : BA N p0 p1 p2 p3 = some r) : BV Tryz.prog 135 [pD (.sl (p0.map Ab)), iD p1, oD (.ptr 90000 0), oD (.clo (Cy (Gq true Ab true Ab) C7 p3))] [(.box [iC p2], .box [iC r.2])] [] (iD r.1) := by
 unfold BA at h
 refine Bk (n := 18) (rs := [.tmp 8]) Tryz.func135 rfl rfl rfl (A2 rfl) (A2 rfl) rfl rfl (A2 rfl) rfl (A2 rfl) fun w0 S0 GL => ?_
 refine Ak (sm [] [(0, pD (.sl (p0.map Ab))), (1, iD p1), (2, oD (.ptr 90000 0)), (3, oD (.clo (Cy (Gq true Ab true Ab) C7 p3)))] [(90000, .box [iC p2])] rfl rfl) (As Ac rfl (qa rfl (Ad (As Ac rfl (qm rfl (qm rfl (Di rfl (qm rfl (qm rfl (AW rfl (qm rfl (qm rfl ?_))))))))))))
 obtain ⟨v1, a1, h⟩ := bind_some h
 refine DO (ds0 := [_, _, _, _, _, _]) [90000] [] [true] (F9 N p0 ((wI .i64 (p1 - 1))) p1 ((wI .i64 (p1 + 1))) p2 p3 v1 a1) (.p rfl) Zy rfl ⟨rfl, rfl, rfl, rfl, rfl, rfl, tv⟩ rfl rfl (by decide) ⟨rfl, tv⟩ rfl (Bf rfl) tv ⟨(fun h => by cases h), tv⟩ rfl rfl rfl ?_
 refine qa rfl (Ad ?_)
 obtain rfl := sj h
 refine Ak (sm [] [(8, iD v1.1)] [(90000, .box [iC v1.2])] rfl rfl) (Ax ?_)
 exact ⟨⟨[_], ⟨.tmp _ _ rfl, tv⟩, rfl⟩, ⟨rfl, tv⟩, tv⟩
theorem Hq (N : Nat) (p0 : List Aa) (p1 : Int) (p2 : Int) (p3 : (Aa × Aa) → Option Int) (r : Int × Int) (h : DL N p0 p1 p2 p3 = some r) : Ay Tryz.prog 100 [pD (.sl (p0.map Ab)), iD p1, iD p2, oD (.clo (Cy (Gq true Ab true Ab) C7 p3))] [] (.tup [.one (iC r.1), .one (iC r.2)]) := by
 unfold DL at h
 refine An (n := 63) (rs := [.tmp 8, .tmp 9]) Tryz.func100 rfl rfl rfl (A2 rfl) (A2 rfl) rfl fun w0 S0 => ?_
 refine As Ac rfl (qa rfl (qa rfl (Ad (As Ac rfl (qm rfl (qm rfl (Di rfl (qa rfl (Ad (As Ac rfl (qz Lb rfl (Ad (As Ac rfl (qm rfl (qm rfl (PU rfl (by decide) (J3 rfl (AW rfl (qa rfl (Ad (As Ac rfl (qm rfl (qm rfl (PU rfl (by decide) (J3 rfl (AW rfl (qa rfl (Ad (As Ac rfl (qm rfl (qm rfl (PU rfl (by decide) (J3 rfl ?_)))))))))))))))))))))))))))))))))
 refine AW rfl (qa rfl (Ad ?_))
 refine AU h (fun v1 => mk [(11, oD (.ptr 11 0)), (13, iD v1.2)] [(11, .box [iC v1.1])]) (fun j1 h => ?_) (fun v1 h => ?_)
 ·refine As Ac rfl (qm rfl (Ee rfl (Ad ?_)))
  refine Bd h rfl (fun h => ?_) fun h => ?_
  ·refine AU h (fun v3 => mk [(0, pD (.sl (p0.map Ab))), (3, oD (.clo (Cy (Gq true Ab true Ab) C7 p3))), (11, oD (.ptr 11 0)), (12, iD v3.2.1), (13, iD v3.2.2.1), (14, iD v3.2.2.2)] [(11, .box [iC v3.1])]) (fun j3 h => ?_) (fun v3 h => ?_)
   ·refine As Ac rfl (qm rfl (Ee rfl (Ad ?_)))
    refine Bd h rfl (fun h => ?_) fun h => ?_
    ·refine As Ac rfl (qm rfl (qm rfl (qm rfl ?_)))
     obtain ⟨v5, a5, h⟩ := bind_some h
     refine DO (ds0 := [_, _, _, _]) [11] [] [true] (Dw N p0 ((wI .i64 (p1 + (wI .i64 ((wI .i64 (Int.tdiv ((wI .i64 (p2 - p1))) 4)) * 1))))) 0 p3 v5 a5) (.p rfl) XH rfl ⟨rfl, rfl, rfl, rfl, tv⟩ rfl rfl (by decide) ⟨rfl, tv⟩ rfl (Bf rfl) tv ⟨(fun h => by cases h), tv⟩ rfl rfl rfl ?_
     refine qa rfl (Ad (As Ac rfl (qm rfl (qm rfl (qm rfl ?_)))))
     obtain ⟨v6, a6, h⟩ := bind_some h
     refine DO (ds0 := [_, _, _, _]) [11] [] [true] (Dw N p0 ((wI .i64 (p1 + (wI .i64 ((wI .i64 (Int.tdiv ((wI .i64 (p2 - p1))) 4)) * 2))))) v5.2 p3 v6 a6) (.p rfl) XH rfl ⟨rfl, rfl, rfl, rfl, tv⟩ rfl rfl (by decide) ⟨rfl, tv⟩ rfl (Bf rfl) tv ⟨(fun h => by cases h), tv⟩ rfl rfl rfl ?_
     refine qa rfl (Ad (Aj Ac rfl (qm rfl (qm rfl (qm rfl ?_)))))
     obtain ⟨v7, a7, h⟩ := bind_some h
     refine DO (ds0 := [_, _, _, _]) [11] [] [true] (Dw N p0 ((wI .i64 (p1 + (wI .i64 ((wI .i64 (Int.tdiv ((wI .i64 (p2 - p1))) 4)) * 3))))) v6.2 p3 v7 a7) (.p rfl) XH rfl ⟨rfl, rfl, rfl, rfl, tv⟩ rfl rfl (by decide) ⟨rfl, tv⟩ rfl (Bf rfl) tv ⟨(fun h => by cases h), tv⟩ rfl rfl rfl ?_
     refine qa rfl (Ad ?_)
     exact sn [] h
    ·refine Ao ?_
     exact sn [] h
   ·refine Aj Ac rfl (qm rfl (qm rfl (qm rfl (qm rfl (qm rfl ?_)))))
    obtain ⟨v8, a8, h⟩ := bind_some h
    refine DO (ds0 := [_, _, _, _, _, _]) [11] [] [true] (F9 N p0 v3.2.1 v3.2.2.1 v3.2.2.2 v3.1 p3 v8 a8) (.p rfl) Zy rfl ⟨rfl, rfl, rfl, rfl, rfl, rfl, tv⟩ rfl rfl (by decide) ⟨rfl, tv⟩ rfl (Bf rfl) tv ⟨(fun h => by cases h), tv⟩ rfl rfl rfl ?_
    refine qa rfl (Ad ?_)
    exact sn [] h
  ·refine Ao ?_
   exact sn [] h
 ·refine As Ac rfl (ql CP rfl (Ad (AL (As Ac rfl (B5 rfl (qa rfl (Ad ?_)))))))
  refine Bd h rfl (fun h => ?_) fun h => ?_
  ·refine As Ac rfl (qm rfl (qa rfl (qa rfl (Ad ?_))))
   obtain rfl := sj h
   refine Ak (sm [] [(8, iD v1.2), (9, iD 1)] [] rfl rfl) (Ax ?_)
   exact ⟨⟨[_, _], ⟨.tmp _ _ rfl, ⟨.tmp _ _ rfl, tv⟩⟩, rfl⟩, tv⟩
  ·refine As Ac rfl (B5 rfl (qa rfl (Ad ?_)))
   refine Bd h rfl (fun h => ?_) fun h => ?_
   ·refine As Ac rfl (qm rfl (qa rfl (qa rfl (Ad ?_))))
    obtain rfl := sj h
    refine Ak (sm [] [(8, iD v1.2), (9, iD 2)] [] rfl rfl) (Ax ?_)
    exact ⟨⟨[_, _], ⟨.tmp _ _ rfl, ⟨.tmp _ _ rfl, tv⟩⟩, rfl⟩, tv⟩
   ·refine As Ac rfl (qm rfl (qa rfl (qa rfl (Ad ?_))))
    obtain rfl := sj h
    refine Ak (sm [] [(8, iD v1.2), (9, iD 0)] [] rfl rfl) (Ax ?_)
    exact ⟨⟨[_, _], ⟨.tmp _ _ rfl, ⟨.tmp _ _ rfl, tv⟩⟩, rfl⟩, tv⟩
theorem Hi (N : Nat) (p0 : List Aa) (p1 : Int) (p2 : Int) (p3 : (Aa × Aa) → Option Int) (r : (List Aa)) (h : DG N p0 p1 p2 p3 = some r) : BV Tryz.prog 101 [oD (.own 90000), iD p1, iD p2, oD (.clo (Cy (Gq true Ab true Ab) C7 p3))] [(.vec 3 (p0.map Ab), .vec 3 (r.map Ab))] [] (.tup []) := by
 unfold DG at h
 refine Bk (n := 34) (rs := []) Tryz.func101 rfl rfl rfl (A2 rfl) (A2 rfl) rfl rfl (A2 rfl) rfl (A2 rfl) fun w0 S0 GL => O5 ?_
 refine Ak (sm [] [(0, oD (.own 90000)), (1, iD p1), (2, iD p2), (3, oD (.clo (Cy (Gq true Ab true Ab) C7 p3)))] [(90000, .vec 3 (p0.map Ab))] rfl rfl) (As Ac rfl (qm rfl (qa rfl (Ad (As Ac rfl (qm rfl (Di rfl (qa rfl (Ad ?_)))))))))
 refine AB (L := B7 N) h (fun v1 => mk [(0, oD (.own 90000)), (8, iD v1.2.1), (9, iD v1.2.2)] [(90000, .vec 3 (v1.1.map Ab))]) (fun v2 => mk [] [(90000, .vec 3 (v2.map Ab))]) (fun _ _ => rfl) (sm [] _ _ rfl rfl) (fun j1 n1 v1 h => ?_) (fun v2 s h hs => ?_)
 ·unfold B7 at h
  refine Ap (As Ac rfl (qm rfl (qm rfl (A0 rfl (Ad ?_)))))
  refine Bd h rfl (fun h => ?_) fun h => ?_
  ·refine Ao (AL (As Ac rfl (qm rfl (qm rfl (qm rfl (qm rfl (qm rfl (qm rfl ?_))))))))
   obtain ⟨v4, a4, b4, h⟩ := Ah h
   refine qI AT AQ a4 (Af b4) rfl (qJ Du AQ (Af b4) rfl (qm rfl (qm rfl ?_)))
   obtain ⟨v5, a5, b5, h⟩ := Ah h
   refine qI AT AQ a5 (Af b5) rfl (qJ Du AQ (Af b5) rfl ?_)
   obtain ⟨v6, a6, b6, h⟩ := Ah h
   refine qI AT AQ a6 (Af b6) rfl ?_
   refine A9 rfl rfl rfl rfl (Af b6) rfl AQ rfl (A2 rfl) (A6 Ab v1.1 _ v4) ?_
   obtain ⟨v7, a7, b7, h⟩ := Ah h
   refine qI AT AQ a7 (Af b7) rfl ?_
   refine A9 rfl rfl rfl rfl (Af b7) rfl AQ rfl (A2 rfl) (A6 Ab (v1.1.set ((v1.2.1).toNat) v4) _ v5) ?_
   refine AJ (by kernel_rfl) (As Ac rfl (qm rfl (AW rfl (qa rfl (Ad (Aj Ac rfl (qm rfl (Di rfl (qa rfl (Ad ?_))))))))))
   exact sn [] h
  ·refine AV ?_
   exact sn [] h
 ·obtain rfl := sj h
  refine ⟨_, hs.trans (sm [] [] [(90000, .vec 3 (v2.map Ab))] rfl rfl), ?_⟩
  exact ⟨⟨[], tv, rfl⟩, ⟨rfl, tv⟩, tv⟩
end Go.Lift
