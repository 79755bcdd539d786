/- Lemmas for RefuseProveSaid, which YtpaobkaighpaaaaGreatFinR3 proves. -/
import Derived.Test.YtpaobkaighpaaaaGreatCode3
namespace Go.Lift
open IntKind renaming wrap → wI
set_option maxRecDepth 10000
open Go.RowKit
open Go.Proofs
theorem FJ (N : Nat) (p0 : List Af) (p1 : Int) (p2 : Int) (p3 : Int) (p4 : (Af × Af) → Option Int) (r : (List Af)) (h : Gs.siftDown N p0 p1 p2 p3 p4 = some r) : Bj Tryz.prog 166 [oD (.own 90000), iD p1, iD p2, iD p3, oD (.clo (Bb (Co true Ai true Ai) Bi p4))] [(.vec 3 (p0.map Ai), .vec 3 (r.map Ai))] [] (.tup []) := by
 unfold Gs.siftDown at h
 refine A9 (n := 82) (rs := []) Tryz.func166 rfl rfl rfl (A6 rfl) (A6 rfl) rfl rfl (A6 rfl) rfl (A6 rfl) fun w0 S0 GL => JI ?_
 refine Am (sm [] [(0, oD (.own 90000)), (1, iD p1), (2, iD p2), (3, iD p3), (4, oD (.clo (Bb (Co true Ai true Ai) Bi p4)))] [(90000, .vec 3 (p0.map Ai))] rfl rfl) (Ab (Aa Ac rfl (qm rfl (qa rfl (Ae ?_)))))
 refine AE (L := Gs.siftDown_L1 N p2 p3 p4) h (fun v1 => mk [(0, oD (.own 90000)), (2, iD p2), (3, iD p3), (4, oD (.clo (Bb (Co true Ai true Ai) Bi p4))), (10, iD v1.2)] [(90000, .vec 3 (v1.1.map Ai))]) (fun v2 => mk [] [(90000, .vec 3 (v2.map Ai))]) (fun _ _ => rfl) (sm [] _ _ rfl rfl) (fun j1 n1 v1 h => ?_) (fun v2 s h hs => ?_)
 ·unfold Gs.siftDown_L1 at h
  refine AK (Ab (Aa Ac rfl (qm rfl (HJ rfl (AR rfl (qa rfl (Ae (Ab (Ab (Aa Ac rfl (qm rfl (qm rfl (Cz rfl (Ae ?_))))))))))))))
  refine Ap rfl (fun c3 => ?_) (fun c3 => ?_)
  ·have h := Ao c3 h
   refine AS ?_
   exact Au _ h (sm [] _ _ rfl rfl)
  ·have h := An c3 h
   refine Aq ?_
   refine AO h (fun v4 => mk [(0, oD (.own 90000)), (2, iD p2), (3, iD p3), (4, oD (.clo (Bb (Co true Ai true Ai) Bi p4))), (10, iD v1.2), (11, iD v4)] [(90000, .vec 3 (v1.1.map Ai))]) (fun j4 h => ?_) (fun v4 h => ?_)
   ·refine AO h (fun v5 => mk [(0, oD (.own 90000)), (2, iD p2), (3, iD p3), (4, oD (.clo (Bb (Co true Ai true Ai) Bi p4))), (10, iD v1.2), (11, iD ((wI .i64 ((wI .i64 (2 * v1.2)) + 1)))), (40, bD v5)] [(90000, .vec 3 (v1.1.map Ai))]) (fun j5 h => ?_) (fun v5 h => ?_)
    ·refine Aa Ac rfl (qm rfl (AR rfl (qm rfl (AX rfl (qm rfl ?_)))))
     refine AF (t := 23) rfl (fun c6 => ?_) (fun c6 => ?_)
     ·have h := Ao c6 h
      refine qm rfl (qm rfl (qm rfl (qm rfl (AR rfl ?_))))
      obtain ⟨v7, a7, b7, h⟩ := Aj h
      refine qI AV Az a7 (Ag b7) rfl (qJ A7 Az (Ag b7) rfl (qm rfl (qm rfl (qm rfl (AR rfl (AR rfl ?_))))))
      obtain ⟨v8, a8, b8, h⟩ := Aj h
      refine qI AV Az a8 (Ag b8) rfl (qJ A7 Az (Ag b8) rfl ?_)
      obtain ⟨v9, a9, h⟩ := bind_some h
      refine CF (ds0 := [_, _]) (ar := (Co true Ai true Ai) ((v7, v8))) (.g rfl rfl) rfl rfl ⟨rfl, rfl, tv⟩ rfl rfl rfl (CH (Dd _ _ _ _ BI BI) a9) ?_
      refine AX rfl (qp rfl (AB (by kernel_rfl) ?_))
      exact Au _ h (sm [] _ _ rfl rfl)
     ·have h := An c6 h
      refine qn rfl (qn rfl (qn rfl (qn rfl (qn rfl (qn rfl (qn rfl (qn rfl (qn rfl (qn rfl (qn rfl (qn rfl (qn rfl (qn rfl (qn rfl (qn rfl (qp rfl (AB (by kernel_rfl) ?_)))))))))))))))))
      exact Au _ h (sm [] _ _ rfl rfl)
    ·refine Ap rfl (fun c10 => ?_) (fun c10 => ?_)
     ·have h := Ao c10 h
      refine Aa Ac rfl (qm rfl (AR rfl (qa rfl (Ae ?_))))
      exact Au _ h (sm [] _ _ rfl rfl)
     ·have h := An c10 h
      refine Aq ?_
      exact Au _ h (sm [] _ _ rfl rfl)
   ·refine Ab (Ab (Aa Ac rfl (qm rfl (qm rfl (qm rfl (qm rfl (AR rfl ?_)))))))
    obtain ⟨v11, a11, b11, h⟩ := Aj h
    refine qI AV Az a11 (Ag b11) rfl (qJ A7 Az (Ag b11) rfl (qm rfl (qm rfl (qm rfl (AR rfl ?_)))))
    obtain ⟨v12, a12, b12, h⟩ := Aj h
    refine qI AV Az a12 (Ag b12) rfl (qJ A7 Az (Ag b12) rfl ?_)
    obtain ⟨v13, a13, h⟩ := bind_some h
    refine CF (ds0 := [_, _]) (ar := (Co true Ai true Ai) ((v11, v12))) (.p rfl) rfl rfl ⟨rfl, rfl, tv⟩ rfl rfl rfl (CH (Dd _ _ _ _ BI BI) a13) ?_
    refine AX rfl (BW rfl (AB (by kernel_rfl) ?_))
    refine Ap rfl (fun c14 => ?_) (fun c14 => ?_)
    ·have h := Ao c14 h
     obtain rfl := sj h
     refine AA ⟨_, (sm [] [] [(90000, .vec 3 (v1.1.map Ai))] rfl rfl), ?_⟩
     exact ⟨⟨[], tv, rfl⟩, ⟨rfl, tv⟩, tv⟩
    ·have h := An c14 h
     refine Aq (Ab (Aa Ac rfl (qm rfl (qm rfl (qm rfl (AR rfl (qm rfl (qm rfl (qm rfl (AR rfl (qm rfl (qm rfl (qm rfl (AR rfl ?_))))))))))))))
     obtain ⟨v15, a15, b15, h⟩ := Aj h
     refine qI AV Az a15 (Ag b15) rfl (qJ A7 Az (Ag b15) rfl (qm rfl (qm rfl (qm rfl (AR rfl ?_)))))
     obtain ⟨v16, a16, b16, h⟩ := Aj h
     refine qI AV Az a16 (Ag b16) rfl (qJ A7 Az (Ag b16) rfl ?_)
     obtain ⟨v17, a17, b17, h⟩ := Aj h
     refine qI AV Az a17 (Ag b17) rfl ?_
     refine AY rfl rfl rfl rfl (Ag b17) rfl Az rfl (A6 rfl) (AZ Ai v1.1 _ v15) ?_
     obtain ⟨v18, a18, b18, h⟩ := Aj h
     refine qI AV Az a18 (Ag b18) rfl ?_
     refine AY rfl rfl rfl rfl (Ag b18) rfl Az rfl (A6 rfl) (AZ Ai (v1.1.set (((wI .i64 (p3 + v1.2))).toNat) v15) _ v16) ?_
     refine AB (by kernel_rfl) (Aa Ac rfl (qm rfl (qa rfl (Ae ?_))))
     exact Au _ h (sm [] _ _ rfl rfl)
 ·obtain rfl := sj h
  refine ⟨_, hs.trans (sm [] [] [(90000, .vec 3 (v2.map Ai))] rfl rfl), ?_⟩
  exact ⟨⟨[], tv, rfl⟩, ⟨rfl, tv⟩, tv⟩
theorem HY (N : Nat) (p0 : List Af) (p1 : Int) (p2 : Int) (p3 : (Af × Af) → Option Int) (r : (List Af)) (h : Gs.heapSort N p0 p1 p2 p3 = some r) : Bj Tryz.prog 146 [oD (.own 90000), iD p1, iD p2, oD (.clo (Bb (Co true Ai true Ai) Bi p3))] [(.vec 3 (p0.map Ai), .vec 3 (r.map Ai))] [] (.tup []) := by
 unfold Gs.heapSort at h
 refine A9 (n := 60) (rs := []) Tryz.func146 rfl rfl rfl (A6 rfl) (A6 rfl) rfl rfl (A6 rfl) rfl (A6 rfl) fun w0 S0 GL => JI ?_
 refine Am (sm [] [(0, oD (.own 90000)), (1, iD p1), (2, iD p2), (3, oD (.clo (Bb (Co true Ai true Ai) Bi p3)))] [(90000, .vec 3 (p0.map Ai))] rfl rfl) (Ab (Aa Ac rfl (qm rfl (qa rfl (Ae (Ab (Aa Ac rfl (qa rfl (Ae (Ab (Aa Ac rfl (qm rfl (qm rfl (Bm rfl (qa rfl (Ae (Ab (Ab (Aa Ac rfl (qm rfl (Bm rfl (JA rfl (by decide) (qa rfl (Ae ?_))))))))))))))))))))))))
 refine AE (L := Gs.heapSort_L1 N p1 p2 p3) h (fun v1 => mk [(0, oD (.own 90000)), (3, oD (.clo (Bb (Co true Ai true Ai) Bi p3))), (8, iD p1), (9, iD 0), (10, iD ((wI .i64 (p2 - p1)))), (11, iD v1.2)] [(90000, .vec 3 (v1.1.map Ai))]) (fun v2 => mk [(0, oD (.own 90000)), (3, oD (.clo (Bb (Co true Ai true Ai) Bi p3))), (8, iD p1), (9, iD 0), (10, iD ((wI .i64 (p2 - p1))))] [(90000, .vec 3 (v2.map Ai))]) (fun _ _ => rfl) (sm [] _ _ rfl rfl) (fun j1 n1 v1 h => ?_) (fun v2 s h hs => ?_)
 ·unfold Gs.heapSort_L1 at h
  refine Ab (Ab (Aa Ac rfl (qm rfl (Cz rfl (Ae ?_)))))
  refine Ap rfl (fun c3 => ?_) (fun c3 => ?_)
  ·have h := Ao c3 h
   refine Aq (Ab (AK (Aa Ac rfl (qm rfl (qm rfl (qm rfl (qm rfl (qm rfl ?_))))))))
   obtain ⟨v4, a4, h⟩ := bind_some h
   refine BA (ds0 := [_, _, _, _, _]) [90000] [] [true] (FJ N v1.1 v1.2 ((wI .i64 (p2 - p1))) p1 p3 v4 a4) (.p rfl) XV rfl ⟨rfl, rfl, rfl, rfl, rfl, tv⟩ rfl rfl (by decide) ⟨rfl, tv⟩ rfl (A3 rfl) tv ⟨(fun h => by cases h), tv⟩ rfl rfl rfl ?_
   refine Ae (Aa Ac rfl (qm rfl (Bm rfl (qa rfl (Ae ?_)))))
   exact Au _ h (sm [] _ _ rfl rfl)
  ·have h := An c3 h
   refine AS ?_
   exact Au _ h (sm [] _ _ rfl rfl)
 ·refine Am hs (Ab (Aa Ac rfl (qm rfl (Bm rfl (qa rfl (Ae ?_))))))
  refine AE (L := Gs.heapSort_L5 N p1 p3) h (fun v5 => mk [(0, oD (.own 90000)), (3, oD (.clo (Bb (Co true Ai true Ai) Bi p3))), (8, iD p1), (9, iD 0), (12, iD v5.2)] [(90000, .vec 3 (v5.1.map Ai))]) (fun v6 => mk [] [(90000, .vec 3 (v6.map Ai))]) (fun _ _ => rfl) (sm [] _ _ rfl rfl) (fun j5 n5 v5 h => ?_) (fun v6 s h hs => ?_)
  ·unfold Gs.heapSort_L5 at h
   refine Ab (Ab (Aa Ac rfl (qm rfl (Cz rfl (Ae ?_)))))
   refine Ap rfl (fun c7 => ?_) (fun c7 => ?_)
   ·have h := Ao c7 h
    refine Aq (Ab (AK (Ab (Aa Ac rfl (qm rfl (qm rfl (qm rfl (qm rfl (qm rfl (AR rfl (qm rfl (qm rfl (qm rfl (AR rfl ?_))))))))))))))
    obtain ⟨v8, a8, b8, h⟩ := Aj h
    refine qI AV Az a8 (Ag b8) rfl (qJ A7 Az (Ag b8) rfl (qm rfl (qm rfl ?_)))
    obtain ⟨v9, a9, b9, h⟩ := Aj h
    refine qI AV Az a9 (Ag b9) rfl (qJ A7 Az (Ag b9) rfl ?_)
    obtain ⟨v10, a10, b10, h⟩ := Aj h
    refine qI AV Az a10 (Ag b10) rfl ?_
    refine AY rfl rfl rfl rfl (Ag b10) rfl Az rfl (A6 rfl) (AZ Ai v5.1 _ v8) ?_
    obtain ⟨v11, a11, b11, h⟩ := Aj h
    refine qI AV Az a11 (Ag b11) rfl ?_
    refine AY rfl rfl rfl rfl (Ag b11) rfl Az rfl (A6 rfl) (AZ Ai (v5.1.set ((p1).toNat) v8) _ v9) ?_
    refine AB (by kernel_rfl) (Aa Ac rfl (qm rfl (qm rfl (qm rfl (qm rfl (qm rfl ?_))))))
    obtain ⟨v12, a12, h⟩ := bind_some h
    refine BA (ds0 := [_, _, _, _, _]) [90000] [] [true] (FJ N ((v5.1.set ((p1).toNat) v8).set (((wI .i64 (p1 + v5.2))).toNat) v9) 0 v5.2 p1 p3 v12 a12) (.p rfl) XV rfl ⟨rfl, rfl, rfl, rfl, rfl, tv⟩ rfl rfl (by decide) ⟨rfl, tv⟩ rfl (A3 rfl) tv ⟨(fun h => by cases h), tv⟩ rfl rfl rfl ?_
    refine Ae (Aa Ac rfl (qm rfl (Bm rfl (qa rfl (Ae ?_)))))
    exact Au _ h (sm [] _ _ rfl rfl)
   ·have h := An c7 h
    refine AS ?_
    exact Au _ h (sm [] _ _ rfl rfl)
  ·obtain rfl := sj h
   refine ⟨_, hs.trans (sm [] [] [(90000, .vec 3 (v6.map Ai))] rfl rfl), ?_⟩
   exact ⟨⟨[], tv, rfl⟩, ⟨rfl, tv⟩, tv⟩
theorem HD (N : Nat) (p0 : Int) (r : Int) (h : DV N p0 = some r) : AD Tryz.prog 162 [iD p0] [] (pD (.val (.int .u64 r))) := by
 unfold DV at h
 refine Av (n := 7) (rs := [.tmp 2]) Tryz.func162 rfl rfl rfl (A6 rfl) (A6 rfl) rfl fun w0 S0 => ?_
 refine Ab (Aa Ac rfl (qa rfl (Ae (Ab (Aa Ac rfl (qm rfl (GY Wr NE rfl ?_)))))))
 obtain ⟨v1, a1, h⟩ := bind_some h
 refine AJ [] (II N ((wI .u64 p0)) v1 a1) U9 rfl ?_
 obtain ⟨c2, h⟩ := AU h
 refine IC rfl c2 (qa rfl (Ae ?_))
 obtain rfl := sj h
 refine Am (sm [] [(2, pD (.val (.int .u64 ((CJ .u64 1 v1)))))] [] rfl rfl) (AA ?_)
 exact ⟨⟨[_], ⟨.tmp _ _ rfl, tv⟩, rfl⟩, tv⟩
theorem Ib (N : Nat) (p0 : Int) (r : Int × Int) (h : D8 N p0 = some r) : Bj Tryz.prog 163 [oD (.ptr 90000 0)] [(.box [.pure (.val (.int .u64 p0))], .box [.pure (.val (.int .u64 r.2))])] [] (pD (.val (.int .u64 r.1))) := by
 unfold D8 at h
 refine A9 (n := 33) (rs := [.tmp 2]) Tryz.func163 rfl rfl rfl (A6 rfl) (A6 rfl) rfl rfl (A6 rfl) rfl (A6 rfl) fun w0 S0 GL => ?_
 refine Am (sm [] [(0, oD (.ptr 90000 0))] [(90000, .box [.pure (.val (.int .u64 p0))])] rfl rfl) (Ab (Aa Ac rfl (qa rfl (Ae (Ab (Aa Ac rfl (qm rfl (O2 rfl (ql OA rfl (qm rfl (O2 rfl (ql OA rfl (IC rfl (by decide) (Vv rfl (O2 rfl (qs Rm rfl (AB (by kernel_rfl) (Ab (Aa Ac rfl (qm rfl (O2 rfl (ql OA rfl (qm rfl (O2 rfl (ql OA rfl (HI rfl (by decide) (Vv rfl (O2 rfl (qs Rm rfl (AB (by kernel_rfl) (Ab (Aa Ac rfl (qm rfl (O2 rfl (ql OA rfl (qm rfl (O2 rfl (ql OA rfl (IC rfl (by decide) ?_)))))))))))))))))))))))))))))))))))))))
 refine Vv rfl (O2 rfl (qs Rm rfl (AB (by kernel_rfl) (Ab (Aa Ac rfl (qm rfl (O2 rfl (ql OA rfl (qa rfl (Ae ?_))))))))))
 obtain rfl := sj h
 refine Am (sm [] [(2, pD (.val (.int .u64 ((He .u64 ((He .u64 ((He .u64 p0 ((CJ .u64 p0 13)))) ((Eh .u64 ((He .u64 p0 ((CJ .u64 p0 13)))) 7)))) ((CJ .u64 ((He .u64 ((He .u64 p0 ((CJ .u64 p0 13)))) ((Eh .u64 ((He .u64 p0 ((CJ .u64 p0 13)))) 7)))) 17)))))))] [(90000, .box [.pure (.val (.int .u64 ((He .u64 ((He .u64 ((He .u64 p0 ((CJ .u64 p0 13)))) ((Eh .u64 ((He .u64 p0 ((CJ .u64 p0 13)))) 7)))) ((CJ .u64 ((He .u64 ((He .u64 p0 ((CJ .u64 p0 13)))) ((Eh .u64 ((He .u64 p0 ((CJ .u64 p0 13)))) 7)))) 17))))))])] rfl rfl) (AA ?_)
 exact ⟨⟨[_], ⟨.tmp _ _ rfl, tv⟩, rfl⟩, ⟨rfl, tv⟩, tv⟩
theorem GT (N : Nat) (p0 : List Af) (p1 : Int) (p2 : Int) (p3 : (Af × Af) → Option Int) (r : (List Af)) (h : Gs.breakPatterns N p0 p1 p2 p3 = some r) : Bj Tryz.prog 147 [oD (.own 90000), iD p1, iD p2, oD (.clo (Bb (Co true Ai true Ai) Bi p3))] [(.vec 3 (p0.map Ai), .vec 3 (r.map Ai))] [] (.tup []) := by
 unfold Gs.breakPatterns at h
 refine A9 (n := 67) (rs := []) Tryz.func147 rfl rfl rfl (A6 rfl) (A6 rfl) rfl rfl (A6 rfl) rfl (A6 rfl) fun w0 S0 GL => JI ?_
 refine Am (sm [] [(0, oD (.own 90000)), (1, iD p1), (2, iD p2), (3, oD (.clo (Bb (Co true Ai true Ai) Bi p3)))] [(90000, .vec 3 (p0.map Ai))] rfl rfl) (Ab (Aa Ac rfl (qm rfl (qm rfl (Bm rfl (qa rfl (Ae (Ab (Aa Ac rfl (qm rfl (Cz rfl (Ae ?_))))))))))))
 refine Ap rfl (fun c1 => ?_) (fun c1 => ?_)
 ·have h := Ao c1 h
  refine Ab (Aa Ac rfl (qm rfl (GY Wr XN rfl (qz XL rfl (qs Rm rfl (Ae (Ab (Aa Ac rfl (qm rfl ?_)))))))))
  obtain ⟨v2, a2, h⟩ := bind_some h
  refine AJ [] (HD N ((wI .i64 (p2 - p1))) v2 a2) XF rfl (qa rfl (Ae (Ab (Aa Ac rfl (qm rfl (qm rfl (JA rfl (by decide) (HJ rfl (AR rfl (Bm rfl (qa rfl (Ae ?_))))))))))))
  refine AE (L := Gs.breakPatterns_L3 N p1 p2 v2) h (fun v3 => mk [(0, oD (.own 90000)), (1, iD p1), (8, iD ((wI .i64 (p2 - p1)))), (9, oD (.ptr 9 0)), (10, pD (.val (.int .u64 v2))), (11, iD v3.2.2)] [(9, .box [.pure (.val (.int .u64 v3.2.1))]), (90000, .vec 3 (v3.1.map Ai))]) (fun v4 => mk [] [(90000, .vec 3 (v4.map Ai))]) (fun _ _ => rfl) (sm [] _ _ rfl rfl) (fun j3 n3 v3 h => ?_) (fun v4 s h hs => ?_)
  ·unfold Gs.breakPatterns_L3 at h
   refine Ab (Ab (Aa Ac rfl (qm rfl (qm rfl (qm rfl (JA rfl (by decide) (HJ rfl (AR rfl (AR rfl (Ig rfl (Ae ?_)))))))))))
   refine Ap rfl (fun c5 => ?_) (fun c5 => ?_)
   ·have h := Ao c5 h
    refine Aq (Ab (AK (Ab (Aa Ac rfl ?_))))
    obtain ⟨v6, a6, h⟩ := bind_some h
    refine BA (ds0 := [_]) [9] [] [true] (Ib N v3.2.1 v6 a6) (.p rfl) XO rfl ⟨rfl, tv⟩ rfl rfl (by decide) ⟨rfl, tv⟩ rfl (A3 rfl) tv ⟨(fun h => by cases h), tv⟩ rfl rfl rfl ?_
    refine qm rfl (Bm rfl (LF rfl (GY N0 Ud rfl (qa rfl (Ae ?_)))))
    refine AO h (fun v7 => mk [(0, oD (.own 90000)), (1, iD p1), (8, iD ((wI .i64 (p2 - p1)))), (9, oD (.ptr 9 0)), (10, pD (.val (.int .u64 v2))), (11, iD v3.2.2), (12, iD v7)] [(9, .box [.pure (.val (.int .u64 v6.2))]), (90000, .vec 3 (v3.1.map Ai))]) (fun j7 h => ?_) (fun v7 h => ?_)
    ·refine Ab (Aa Ac rfl (qm rfl (qm rfl (Cz rfl (Ae ?_)))))
     refine Ap rfl (fun c8 => ?_) (fun c8 => ?_)
     ·have h := Ao c8 h
      refine Aa Ac rfl (qm rfl (qm rfl (Bm rfl (qa rfl (Ae ?_)))))
      exact Au _ h (sm [] _ _ rfl rfl)
     ·have h := An c8 h
      refine Aq ?_
      exact Au _ h (sm [] _ _ rfl rfl)
    ·refine Aa Ac rfl (qm rfl (qm rfl (qm rfl (qm rfl (qm rfl (AR rfl (qm rfl (qm rfl (qm rfl (AR rfl ?_))))))))))
     obtain ⟨v9, a9, b9, h⟩ := Aj h
     refine qI AV Az a9 (Ag b9) rfl (qJ A7 Az (Ag b9) rfl (qm rfl (qm rfl ?_)))
     obtain ⟨v10, a10, b10, h⟩ := Aj h
     refine qI AV Az a10 (Ag b10) rfl (qJ A7 Az (Ag b10) rfl ?_)
     obtain ⟨v11, a11, b11, h⟩ := Aj h
     refine qI AV Az a11 (Ag b11) rfl ?_
     refine AY rfl rfl rfl rfl (Ag b11) rfl Az rfl (A6 rfl) (AZ Ai v3.1 _ v9) ?_
     obtain ⟨v12, a12, b12, h⟩ := Aj h
     refine qI AV Az a12 (Ag b12) rfl ?_
     refine AY rfl rfl rfl rfl (Ag b12) rfl Az rfl (A6 rfl) (AZ Ai (v3.1.set ((v3.2.2).toNat) v9) _ v10) ?_
     refine AB (by kernel_rfl) (Aa Ac rfl (qm rfl (AR rfl (qa rfl (Ae ?_)))))
     exact Au _ h (sm [] _ _ rfl rfl)
   ·have h := An c5 h
    refine AS ?_
    exact Au _ h (sm [] _ _ rfl rfl)
  ·obtain rfl := sj h
   refine ⟨_, hs.trans (sm [] [] [(90000, .vec 3 (v4.map Ai))] rfl rfl), ?_⟩
   exact ⟨⟨[], tv, rfl⟩, ⟨rfl, tv⟩, tv⟩
 ·have h := An c1 h
  refine Aq ?_
  obtain rfl := sj h
  refine ⟨_, (sm [] [] [(90000, .vec 3 (p0.map Ai))] rfl rfl), ?_⟩
  exact ⟨⟨[], tv, rfl⟩, ⟨rfl, tv⟩, tv⟩
theorem EL (N : Nat) (p0 : List Af) (p1 : Int) (p2 : Int) (p3 : Int) (p4 : (Af × Af) → Option Int) (r : Int × Int × Int) (h : Gs.order2 N p0 p1 p2 p3 p4 = some r) : Bj Tryz.prog 172 [pD (.sl (p0.map Ai)), iD p1, iD p2, oD (.ptr 90000 0), oD (.clo (Bb (Co true Ai true Ai) Bi p4))] [(.box [iC p3], .box [iC r.2.2])] [] (.tup [.one (iC r.1), .one (iC r.2.1)]) := by
 unfold Gs.order2 at h
 refine A9 (n := 32) (rs := [.tmp 10, .tmp 11]) Tryz.func172 rfl rfl rfl (A6 rfl) (A6 rfl) rfl rfl (A6 rfl) rfl (A6 rfl) fun w0 S0 GL => ?_
 refine Am (sm [] [(0, pD (.sl (p0.map Ai))), (1, iD p1), (2, iD p2), (3, oD (.ptr 90000 0)), (4, oD (.clo (Bb (Co true Ai true Ai) Bi p4)))] [(90000, .box [iC p3])] rfl rfl) (Ab (Aa Ac rfl (qa rfl (qa rfl (Ae (Ab (Ab (Aa Ac rfl (qm rfl (qm rfl (qm rfl ?_)))))))))))
 obtain ⟨v1, a1, b1, h⟩ := Aj h
 refine qi AV Az a1 (Ag b1) rfl (qK A7 Az rfl (qm rfl (qm rfl ?_)))
 obtain ⟨v2, a2, b2, h⟩ := Aj h
 refine qi AV Az a2 (Ag b2) rfl (qK A7 Az rfl ?_)
 obtain ⟨v3, a3, h⟩ := bind_some h
 refine CF (ds0 := [_, _]) (ar := (Co true Ai true Ai) ((v1, v2))) (.p rfl) rfl rfl ⟨rfl, rfl, tv⟩ rfl rfl rfl (CH (Dd _ _ _ _ BI BI) a3) ?_
 refine AX rfl (AB (by kernel_rfl) ?_)
 refine Ap rfl (fun c4 => ?_) (fun c4 => ?_)
 ·have h := Ao c4 h
  refine Ab (Aa Ac rfl (qm rfl (O2 rfl (ql Cm rfl (AR rfl (O2 rfl (qs Du rfl (Ae (Ab (Aa Ac rfl (qm rfl (qm rfl (qa rfl (qa rfl (Ae ?_)))))))))))))))
  obtain rfl := sj h
  refine Am (sm [] [(10, iD p2), (11, iD p1)] [(90000, .box [iC ((wI .i64 (p3 + 1)))])] rfl rfl) (AA ?_)
  exact ⟨⟨[_, _], ⟨.tmp _ _ rfl, ⟨.tmp _ _ rfl, tv⟩⟩, rfl⟩, ⟨rfl, tv⟩, tv⟩
 ·have h := An c4 h
  refine Aq (Ab (Aa Ac rfl (qm rfl (qm rfl (qa rfl (qa rfl (Ae ?_)))))))
  obtain rfl := sj h
  refine Am (sm [] [(10, iD p1), (11, iD p2)] [(90000, .box [iC p3])] rfl rfl) (AA ?_)
  exact ⟨⟨[_, _], ⟨.tmp _ _ rfl, ⟨.tmp _ _ rfl, tv⟩⟩, rfl⟩, ⟨rfl, tv⟩, tv⟩
theorem FY (N : Nat) (p0 : List Af) (p1 : Int) (p2 : Int) (p3 : Int) (p4 : Int) (p5 : (Af × Af) → Option Int) (r : Int × Int) (h : Gs.median N p0 p1 p2 p3 p4 p5 = some r) : Bj Tryz.prog 168 [pD (.sl (p0.map Ai)), iD p1, iD p2, iD p3, oD (.ptr 90000 0), oD (.clo (Bb (Co true Ai true Ai) Bi p5))] [(.box [iC p4], .box [iC r.2])] [] (iD r.1) := by
 unfold Gs.median at h
 refine A9 (n := 41) (rs := [.tmp 12]) Tryz.func168 rfl rfl rfl (A6 rfl) (A6 rfl) rfl rfl (A6 rfl) rfl (A6 rfl) fun w0 S0 GL => ?_
 refine Am (sm [] [(0, pD (.sl (p0.map Ai))), (1, iD p1), (2, iD p2), (3, iD p3), (4, oD (.ptr 90000 0)), (5, oD (.clo (Bb (Co true Ai true Ai) Bi p5)))] [(90000, .box [iC p4])] rfl rfl) (Ab (Aa Ac rfl (qa rfl (Ae (Ab (Aa Ac rfl (qm rfl (qm rfl (qm rfl (qm rfl (qm rfl ?_)))))))))))
 obtain ⟨v1, a1, h⟩ := bind_some h
 refine BA (ds0 := [_, _, _, _, _]) [90000] [] [true] (EL N p0 p1 p2 p4 p5 v1 a1) (.p rfl) UA rfl ⟨rfl, rfl, rfl, rfl, rfl, tv⟩ rfl rfl (by decide) ⟨rfl, tv⟩ rfl (A3 rfl) tv ⟨(fun h => by cases h), tv⟩ rfl rfl rfl ?_
 refine qm rfl (qx rfl (qx rfl (qa rfl (qa rfl (Ae (Ab (Aa Ac rfl (qm rfl (qm rfl (qm rfl (qm rfl (qm rfl ?_))))))))))))
 obtain ⟨v2, a2, h⟩ := bind_some h
 refine BA (ds0 := [_, _, _, _, _]) [90000] [] [true] (EL N p0 v1.2.1 p3 v1.2.2 p5 v2 a2) (.p rfl) UA rfl ⟨rfl, rfl, rfl, rfl, rfl, tv⟩ rfl rfl (by decide) ⟨rfl, tv⟩ rfl (A3 rfl) tv ⟨(fun h => by cases h), tv⟩ rfl rfl rfl ?_
 refine qm rfl (qx rfl (qx rfl (qa rfl (qa rfl (Ae (Ab (Aa Ac rfl (qm rfl (qm rfl (qm rfl (qm rfl (qm rfl ?_))))))))))))
 obtain ⟨v3, a3, h⟩ := bind_some h
 refine BA (ds0 := [_, _, _, _, _]) [90000] [] [true] (EL N p0 v1.1 v2.1 v2.2.2 p5 v3 a3) (.p rfl) UA rfl ⟨rfl, rfl, rfl, rfl, rfl, tv⟩ rfl rfl (by decide) ⟨rfl, tv⟩ rfl (A3 rfl) tv ⟨(fun h => by cases h), tv⟩ rfl rfl rfl ?_
 refine qm rfl (qx rfl (qx rfl (qa rfl (qa rfl (Ae (Ab (Aa Ac rfl (qm rfl (qa rfl (Ae ?_))))))))))
 obtain rfl := sj h
 refine Am (sm [] [(12, iD v3.2.1)] [(90000, .box [iC v3.2.2])] rfl rfl) (AA ?_)
 exact ⟨⟨[_], ⟨.tmp _ _ rfl, tv⟩, rfl⟩, ⟨rfl, tv⟩, tv⟩
theorem Dz (N : Nat) (p0 : List Af) (p1 : Int) (p2 : Int) (p3 : (Af × Af) → Option Int) (r : Int × Int) (h : Gs.medianAdjacent N p0 p1 p2 p3 = some r) : Bj Tryz.prog 167 [pD (.sl (p0.map Ai)), iD p1, oD (.ptr 90000 0), oD (.clo (Bb (Co true Ai true Ai) Bi p3))] [(.box [iC p2], .box [iC r.2])] [] (iD r.1) := by
 unfold Gs.medianAdjacent at h
 refine A9 (n := 18) (rs := [.tmp 8]) Tryz.func167 rfl rfl rfl (A6 rfl) (A6 rfl) rfl rfl (A6 rfl) rfl (A6 rfl) fun w0 S0 GL => ?_
 refine Am (sm [] [(0, pD (.sl (p0.map Ai))), (1, iD p1), (2, oD (.ptr 90000 0)), (3, oD (.clo (Bb (Co true Ai true Ai) Bi p3)))] [(90000, .box [iC p2])] rfl rfl) (Ab (Aa Ac rfl (qa rfl (Ae (Ab (Aa Ac rfl (qm rfl (qm rfl (Bm rfl (qm rfl (qm rfl (AR rfl (qm rfl (qm rfl ?_))))))))))))))
 obtain ⟨v1, a1, h⟩ := bind_some h
 refine BA (ds0 := [_, _, _, _, _, _]) [90000] [] [true] (FY N p0 ((wI .i64 (p1 - 1))) p1 ((wI .i64 (p1 + 1))) p2 p3 v1 a1) (.p rfl) XX rfl ⟨rfl, rfl, rfl, rfl, rfl, rfl, tv⟩ rfl rfl (by decide) ⟨rfl, tv⟩ rfl (A3 rfl) tv ⟨(fun h => by cases h), tv⟩ rfl rfl rfl ?_
 refine qa rfl (Ae ?_)
 obtain rfl := sj h
 refine Am (sm [] [(8, iD v1.1)] [(90000, .box [iC v1.2])] rfl rfl) (AA ?_)
 exact ⟨⟨[_], ⟨.tmp _ _ rfl, tv⟩, rfl⟩, ⟨rfl, tv⟩, tv⟩
theorem Ho (N : Nat) (p0 : List Af) (p1 : Int) (p2 : Int) (p3 : (Af × Af) → Option Int) (r : Int × Int) (h : Gs.choosePivot N p0 p1 p2 p3 = some r) : AD Tryz.prog 148 [pD (.sl (p0.map Ai)), iD p1, iD p2, oD (.clo (Bb (Co true Ai true Ai) Bi p3))] [] (.tup [.one (iC r.1), .one (iC r.2)]) := by
 unfold Gs.choosePivot at h
 refine Av (n := 63) (rs := [.tmp 8, .tmp 9]) Tryz.func148 rfl rfl rfl (A6 rfl) (A6 rfl) rfl fun w0 S0 => ?_
 refine Ab (Aa Ac rfl (qa rfl (qa rfl (Ae (Ab (Aa Ac rfl (qm rfl (qm rfl (Bm rfl (qa rfl (Ae (Ab (Aa Ac rfl (qz KI rfl (Ae (Ab (Aa Ac rfl (qm rfl (qm rfl (JA rfl (by decide) (HJ rfl (AR rfl (qa rfl (Ae (Ab (Aa Ac rfl (qm rfl (qm rfl (JA rfl (by decide) (HJ rfl (AR rfl (qa rfl (Ae (Ab (Aa Ac rfl (qm rfl (qm rfl (JA rfl (by decide) (HJ rfl ?_)))))))))))))))))))))))))))))))))))))))
 refine AR rfl (qa rfl (Ae ?_))
 refine AO h (fun v1 => mk [(11, oD (.ptr 11 0)), (13, iD v1.2)] [(11, .box [iC v1.1])]) (fun j1 h => ?_) (fun v1 h => ?_)
 ·refine Ab (Aa Ac rfl (qm rfl (Cz rfl (Ae ?_))))
  refine Ap rfl (fun c2 => ?_) (fun c2 => ?_)
  ·have h := Ao c2 h
   refine AO h (fun v3 => mk [(0, pD (.sl (p0.map Ai))), (3, oD (.clo (Bb (Co true Ai true Ai) Bi p3))), (11, oD (.ptr 11 0)), (12, iD v3.2.1), (13, iD v3.2.2.1), (14, iD v3.2.2.2)] [(11, .box [iC v3.1])]) (fun j3 h => ?_) (fun v3 h => ?_)
   ·refine Ab (Aa Ac rfl (qm rfl (Cz rfl (Ae ?_))))
    refine Ap rfl (fun c4 => ?_) (fun c4 => ?_)
    ·have h := Ao c4 h
     refine Ab (Aa Ac rfl (qm rfl (qm rfl (qm rfl ?_))))
     obtain ⟨v5, a5, h⟩ := bind_some h
     refine BA (ds0 := [_, _, _, _]) [11] [] [true] (Dz N p0 ((wI .i64 (p1 + (wI .i64 ((wI .i64 (Int.tdiv ((wI .i64 (p2 - p1))) 4)) * 1))))) 0 p3 v5 a5) (.p rfl) Wh rfl ⟨rfl, rfl, rfl, rfl, tv⟩ rfl rfl (by decide) ⟨rfl, tv⟩ rfl (A3 rfl) tv ⟨(fun h => by cases h), tv⟩ rfl rfl rfl ?_
     refine qa rfl (Ae (Ab (Aa Ac rfl (qm rfl (qm rfl (qm rfl ?_))))))
     obtain ⟨v6, a6, h⟩ := bind_some h
     refine BA (ds0 := [_, _, _, _]) [11] [] [true] (Dz N p0 ((wI .i64 (p1 + (wI .i64 ((wI .i64 (Int.tdiv ((wI .i64 (p2 - p1))) 4)) * 2))))) v5.2 p3 v6 a6) (.p rfl) Wh rfl ⟨rfl, rfl, rfl, rfl, tv⟩ rfl rfl (by decide) ⟨rfl, tv⟩ rfl (A3 rfl) tv ⟨(fun h => by cases h), tv⟩ rfl rfl rfl ?_
     refine qa rfl (Ae (Aa Ac rfl (qm rfl (qm rfl (qm rfl ?_)))))
     obtain ⟨v7, a7, h⟩ := bind_some h
     refine BA (ds0 := [_, _, _, _]) [11] [] [true] (Dz N p0 ((wI .i64 (p1 + (wI .i64 ((wI .i64 (Int.tdiv ((wI .i64 (p2 - p1))) 4)) * 3))))) v6.2 p3 v7 a7) (.p rfl) Wh rfl ⟨rfl, rfl, rfl, rfl, tv⟩ rfl rfl (by decide) ⟨rfl, tv⟩ rfl (A3 rfl) tv ⟨(fun h => by cases h), tv⟩ rfl rfl rfl ?_
     refine qa rfl (Ae ?_)
     exact Au _ h (sm [] _ _ rfl rfl)
    ·have h := An c4 h
     refine Aq ?_
     exact Au _ h (sm [] _ _ rfl rfl)
   ·refine Aa Ac rfl (qm rfl (qm rfl (qm rfl (qm rfl (qm rfl ?_)))))
    obtain ⟨v8, a8, h⟩ := bind_some h
    refine BA (ds0 := [_, _, _, _, _, _]) [11] [] [true] (FY N p0 v3.2.1 v3.2.2.1 v3.2.2.2 v3.1 p3 v8 a8) (.p rfl) XX rfl ⟨rfl, rfl, rfl, rfl, rfl, rfl, tv⟩ rfl rfl (by decide) ⟨rfl, tv⟩ rfl (A3 rfl) tv ⟨(fun h => by cases h), tv⟩ rfl rfl rfl ?_
    refine qa rfl (Ae ?_)
    exact Au _ h (sm [] _ _ rfl rfl)
  ·have h := An c2 h
   refine Aq ?_
   exact Au _ h (sm [] _ _ rfl rfl)
 ·refine Ab (Aa Ac rfl (ql Cm rfl (Ae (AK (Ab (Aa Ac rfl (BK rfl (qa rfl (Ae ?_)))))))))
  refine Ap rfl (fun c9 => ?_) (fun c9 => ?_)
  ·have h := Ao c9 h
   refine Ab (Aa Ac rfl (qm rfl (qa rfl (qa rfl (Ae ?_)))))
   obtain rfl := sj h
   refine Am (sm [] [(8, iD v1.2), (9, iD 1)] [] rfl rfl) (AA ?_)
   exact ⟨⟨[_, _], ⟨.tmp _ _ rfl, ⟨.tmp _ _ rfl, tv⟩⟩, rfl⟩, tv⟩
  ·have h := An c9 h
   refine Ab (Aa Ac rfl (BK rfl (qa rfl (Ae ?_))))
   refine Ap rfl (fun c10 => ?_) (fun c10 => ?_)
   ·have h := Ao c10 h
    refine Ab (Aa Ac rfl (qm rfl (qa rfl (qa rfl (Ae ?_)))))
    obtain rfl := sj h
    refine Am (sm [] [(8, iD v1.2), (9, iD 2)] [] rfl rfl) (AA ?_)
    exact ⟨⟨[_, _], ⟨.tmp _ _ rfl, ⟨.tmp _ _ rfl, tv⟩⟩, rfl⟩, tv⟩
   ·have h := An c10 h
    refine Ab (Aa Ac rfl (qm rfl (qa rfl (qa rfl (Ae ?_)))))
    obtain rfl := sj h
    refine Am (sm [] [(8, iD v1.2), (9, iD 0)] [] rfl rfl) (AA ?_)
    exact ⟨⟨[_, _], ⟨.tmp _ _ rfl, ⟨.tmp _ _ rfl, tv⟩⟩, rfl⟩, tv⟩
theorem G9 (N : Nat) (p0 : List Af) (p1 : Int) (p2 : Int) (p3 : (Af × Af) → Option Int) (r : (List Af)) (h : Gs.reverseRange N p0 p1 p2 p3 = some r) : Bj Tryz.prog 149 [oD (.own 90000), iD p1, iD p2, oD (.clo (Bb (Co true Ai true Ai) Bi p3))] [(.vec 3 (p0.map Ai), .vec 3 (r.map Ai))] [] (.tup []) := by
 unfold Gs.reverseRange at h
 refine A9 (n := 34) (rs := []) Tryz.func149 rfl rfl rfl (A6 rfl) (A6 rfl) rfl rfl (A6 rfl) rfl (A6 rfl) fun w0 S0 GL => JI ?_
 refine Am (sm [] [(0, oD (.own 90000)), (1, iD p1), (2, iD p2), (3, oD (.clo (Bb (Co true Ai true Ai) Bi p3)))] [(90000, .vec 3 (p0.map Ai))] rfl rfl) (Ab (Aa Ac rfl (qm rfl (qa rfl (Ae (Ab (Aa Ac rfl (qm rfl (Bm rfl (qa rfl (Ae ?_)))))))))))
 refine AE (L := Gs.reverseRange_L1 N) h (fun v1 => mk [(0, oD (.own 90000)), (8, iD v1.2.1), (9, iD v1.2.2)] [(90000, .vec 3 (v1.1.map Ai))]) (fun v2 => mk [] [(90000, .vec 3 (v2.map Ai))]) (fun _ _ => rfl) (sm [] _ _ rfl rfl) (fun j1 n1 v1 h => ?_) (fun v2 s h hs => ?_)
 ·unfold Gs.reverseRange_L1 at h
  refine Ab (Ab (Aa Ac rfl (qm rfl (qm rfl (AX rfl (Ae ?_))))))
  refine Ap rfl (fun c3 => ?_) (fun c3 => ?_)
  ·have h := Ao c3 h
   refine Aq (AK (Ab (Aa Ac rfl (qm rfl (qm rfl (qm rfl (qm rfl (qm rfl (qm rfl ?_)))))))))
   obtain ⟨v4, a4, b4, h⟩ := Aj h
   refine qI AV Az a4 (Ag b4) rfl (qJ A7 Az (Ag b4) rfl (qm rfl (qm rfl ?_)))
   obtain ⟨v5, a5, b5, h⟩ := Aj h
   refine qI AV Az a5 (Ag b5) rfl (qJ A7 Az (Ag b5) rfl ?_)
   obtain ⟨v6, a6, b6, h⟩ := Aj h
   refine qI AV Az a6 (Ag b6) rfl ?_
   refine AY rfl rfl rfl rfl (Ag b6) rfl Az rfl (A6 rfl) (AZ Ai v1.1 _ v4) ?_
   obtain ⟨v7, a7, b7, h⟩ := Aj h
   refine qI AV Az a7 (Ag b7) rfl ?_
   refine AY rfl rfl rfl rfl (Ag b7) rfl Az rfl (A6 rfl) (AZ Ai (v1.1.set ((v1.2.1).toNat) v4) _ v5) ?_
   refine AB (by kernel_rfl) (Ab (Aa Ac rfl (qm rfl (AR rfl (qa rfl (Ae (Aa Ac rfl (qm rfl (Bm rfl (qa rfl (Ae ?_)))))))))))
   exact Au _ h (sm [] _ _ rfl rfl)
  ·have h := An c3 h
   refine AS ?_
   exact Au _ h (sm [] _ _ rfl rfl)
 ·obtain rfl := sj h
  refine ⟨_, hs.trans (sm [] [] [(90000, .vec 3 (v2.map Ai))] rfl rfl), ?_⟩
  exact ⟨⟨[], tv, rfl⟩, ⟨rfl, tv⟩, tv⟩
theorem FU (N : Nat) (p0 : List Af) (p1 : Int) (p2 : Int) (p3 : (Af × Af) → Option Int) (r : Bool × (List Af)) (h : Gs.partialInsertionSort N p0 p1 p2 p3 = some r) : Bj Tryz.prog 150 [oD (.own 90000), iD p1, iD p2, oD (.clo (Bb (Co true Ai true Ai) Bi p3))] [(.vec 3 (p0.map Ai), .vec 3 (r.2.map Ai))] [] (bD r.1) := by
 unfold Gs.partialInsertionSort at h
 refine A9 (n := 141) (rs := [.tmp 8]) Tryz.func150 rfl rfl rfl (A6 rfl) (A6 rfl) rfl rfl (A6 rfl) rfl (A6 rfl) fun w0 S0 GL => ?_
 refine Am (sm [] [(0, oD (.own 90000)), (1, iD p1), (2, iD p2), (3, oD (.clo (Bb (Co true Ai true Ai) Bi p3)))] [(90000, .vec 3 (p0.map Ai))] rfl rfl) (Ab (Aa Ac rfl (qa rfl (Ae (Ab (Aa Ac rfl (qm rfl (AR rfl (qa rfl (Ae (Ab (Ab (Aa Ac rfl (qa rfl (Ae ?_)))))))))))))))
 refine AE (L := Gs.partialInsertionSort_L1 N p1 p2 p3) h (fun v1 => mk [(0, oD (.own 90000)), (1, iD p1), (2, iD p2), (3, oD (.clo (Bb (Co true Ai true Ai) Bi p3))), (9, iD v1.2.1), (10, iD v1.2.2)] [(90000, .vec 3 (v1.1.map Ai))]) (fun v2 => mk [] [(90000, .vec 3 (v2.map Ai))]) (fun _ _ => rfl) (sm [] _ _ rfl rfl) (fun j1 n1 v1 h => ?_) (fun v2 s h hs => ?_)
 ·unfold Gs.partialInsertionSort_L1 at h
  refine Ab (Ab (Aa Ac rfl (qm rfl (AX rfl (Ae ?_)))))
  refine Ap rfl (fun c3 => ?_) (fun c3 => ?_)
  ·have h := Ao c3 h
   refine Aq ?_
   refine AO h (fun v4 => mk [(0, oD (.own 90000)), (1, iD p1), (2, iD p2), (3, oD (.clo (Bb (Co true Ai true Ai) Bi p3))), (9, iD v4.2), (10, iD v1.2.2)] [(90000, .vec 3 (v4.1.map Ai))]) (fun j4 h => ?_) (fun v4 h => ?_)
   ·refine AK (Ab ?_)
    refine AE (L := Gs.partialInsertionSort_L5 N p2 p3 v1) h (fun v5 => mk [(0, oD (.own 90000)), (1, iD p1), (2, iD p2), (3, oD (.clo (Bb (Co true Ai true Ai) Bi p3))), (9, iD v5), (10, iD v1.2.2)] [(90000, .vec 3 (v1.1.map Ai))]) (fun v6 => mk [(0, oD (.own 90000)), (1, iD p1), (2, iD p2), (3, oD (.clo (Bb (Co true Ai true Ai) Bi p3))), (9, iD v6), (10, iD v1.2.2)] [(90000, .vec 3 (v1.1.map Ai))]) (fun _ _ => rfl) (sm [] _ _ rfl rfl) (fun j5 n5 v5 h => ?_) (fun v6 s h hs => ?_)
    ·unfold Gs.partialInsertionSort_L5 at h
     refine Ab ?_
     refine AO h (fun v7 => mk [(0, oD (.own 90000)), (1, iD p1), (2, iD p2), (3, oD (.clo (Bb (Co true Ai true Ai) Bi p3))), (9, iD v5), (10, iD v1.2.2), (36, bD v7)] [(90000, .vec 3 (v1.1.map Ai))]) (fun j7 h => ?_) (fun v7 h => ?_)
     ·refine Aa Ac rfl (qm rfl (qm rfl (AX rfl (qm rfl ?_))))
      refine AF (t := 22) rfl (fun c8 => ?_) (fun c8 => ?_)
      ·have h := Ao c8 h
       refine qm rfl (qm rfl (qm rfl ?_))
       obtain ⟨v9, a9, b9, h⟩ := Aj h
       refine qI AV Az a9 (Ag b9) rfl (qJ A7 Az (Ag b9) rfl (qm rfl (qm rfl (Bm rfl ?_))))
       obtain ⟨v10, a10, b10, h⟩ := Aj h
       refine qI AV Az a10 (Ag b10) rfl (qJ A7 Az (Ag b10) rfl ?_)
       obtain ⟨v11, a11, h⟩ := bind_some h
       refine CF (ds0 := [_, _]) (ar := (Co true Ai true Ai) ((v9, v10))) (.g rfl rfl) rfl rfl ⟨rfl, rfl, tv⟩ rfl rfl rfl (CH (Dd _ _ _ _ BI BI) a11) ?_
       refine AX rfl (BW rfl (qp rfl (AB (by kernel_rfl) ?_)))
       exact Au _ h (sm [] _ _ rfl rfl)
      ·have h := An c8 h
       refine qn rfl (qn rfl (qn rfl (qn rfl (qn rfl (qn rfl (qn rfl (qn rfl (qn rfl (qn rfl (qn rfl (qn rfl (qn rfl (qp rfl (AB (by kernel_rfl) ?_))))))))))))))
       exact Au _ h (sm [] _ _ rfl rfl)
     ·refine Ap rfl (fun c12 => ?_) (fun c12 => ?_)
      ·have h := Ao c12 h
       refine Aq (AK (Aa Ac rfl (qm rfl (AR rfl (qa rfl (Ae ?_))))))
       exact Au _ h (sm [] _ _ rfl rfl)
      ·have h := An c12 h
       refine AS ?_
       exact Au _ h (sm [] _ _ rfl rfl)
    ·refine Am hs (Ab (Ab (Aa Ac rfl (qm rfl (qm rfl (BK rfl (Ae ?_)))))))
     refine Ap rfl (fun c13 => ?_) (fun c13 => ?_)
     ·have h := Ao c13 h
      refine Ab (Aa Ac rfl (qa rfl (Ae ?_)))
      obtain rfl := sj h
      refine Am (sm [] [(8, bD true)] [(90000, .vec 3 (v1.1.map Ai))] rfl rfl) (AA ?_)
      exact ⟨⟨[_], ⟨.tmp _ _ rfl, tv⟩, rfl⟩, ⟨rfl, tv⟩, tv⟩
     ·have h := An c13 h
      refine Aq (Ab (Ab (Aa Ac rfl (qm rfl (qm rfl (Bm rfl (AX rfl (Ae ?_))))))))
      refine Ap rfl (fun c14 => ?_) (fun c14 => ?_)
      ·have h := Ao c14 h
       refine Ab (Aa Ac rfl (qa rfl (Ae ?_)))
       obtain rfl := sj h
       refine Am (sm [] [(8, bD false)] [(90000, .vec 3 (v1.1.map Ai))] rfl rfl) (AA ?_)
       exact ⟨⟨[_], ⟨.tmp _ _ rfl, tv⟩, rfl⟩, ⟨rfl, tv⟩, tv⟩
      ·have h := An c14 h
       refine Aq (Ab (Aa Ac rfl (qm rfl (qm rfl (qm rfl (qm rfl (Bm rfl (qm rfl (qm rfl (Bm rfl ?_))))))))))
       obtain ⟨v15, a15, b15, h⟩ := Aj h
       refine qI AV Az a15 (Ag b15) rfl (qJ A7 Az (Ag b15) rfl (qm rfl (qm rfl ?_)))
       obtain ⟨v16, a16, b16, h⟩ := Aj h
       refine qI AV Az a16 (Ag b16) rfl (qJ A7 Az (Ag b16) rfl ?_)
       obtain ⟨v17, a17, b17, h⟩ := Aj h
       refine qI AV Az a17 (Ag b17) rfl ?_
       refine AY rfl rfl rfl rfl (Ag b17) rfl Az rfl (A6 rfl) (AZ Ai v1.1 _ v15) ?_
       obtain ⟨v18, a18, b18, h⟩ := Aj h
       refine qI AV Az a18 (Ag b18) rfl ?_
       refine AY rfl rfl rfl rfl (Ag b18) rfl Az rfl (A6 rfl) (AZ Ai (v1.1.set ((v6).toNat) v15) _ v16) ?_
       refine AB (by kernel_rfl) ?_
       refine AO h (fun v19 => mk [(0, oD (.own 90000)), (1, iD p1), (2, iD p2), (3, oD (.clo (Bb (Co true Ai true Ai) Bi p3))), (9, iD v6), (10, iD v1.2.2)] [(90000, .vec 3 (v19.map Ai))]) (fun j19 h => ?_) (fun v19 h => ?_)
       ·refine Ab (Aa Ac rfl (qm rfl (qm rfl (Bm rfl (Cz rfl (Ae ?_))))))
        refine Ap rfl (fun c20 => ?_) (fun c20 => ?_)
        ·have h := Ao c20 h
         refine Ab (Aa Ac rfl (qm rfl (Bm rfl (qa rfl (Ae ?_)))))
         refine AE (L := Gs.partialInsertionSort_L21 N p3) h (fun v21 => mk [(0, oD (.own 90000)), (1, iD p1), (2, iD p2), (3, oD (.clo (Bb (Co true Ai true Ai) Bi p3))), (9, iD v6), (10, iD v1.2.2), (11, iD v21.2)] [(90000, .vec 3 (v21.1.map Ai))]) (fun v22 => mk [(0, oD (.own 90000)), (1, iD p1), (2, iD p2), (3, oD (.clo (Bb (Co true Ai true Ai) Bi p3))), (9, iD v6), (10, iD v1.2.2)] [(90000, .vec 3 (v22.map Ai))]) (fun _ _ => rfl) (sm [] _ _ rfl rfl) (fun j21 n21 v21 h => ?_) (fun v22 s h hs => ?_)
         ·unfold Gs.partialInsertionSort_L21 at h
          refine Ab (Ab (Aa Ac rfl (qm rfl (Cz rfl (Ae ?_)))))
          refine Ap rfl (fun c23 => ?_) (fun c23 => ?_)
          ·have h := Ao c23 h
           refine Aq (Ab (AK (Ab (Ab (Aa Ac rfl (qm rfl (qm rfl (qm rfl ?_))))))))
           obtain ⟨v24, a24, b24, h⟩ := Aj h
           refine qI AV Az a24 (Ag b24) rfl (qJ A7 Az (Ag b24) rfl (qm rfl (qm rfl (Bm rfl ?_))))
           obtain ⟨v25, a25, b25, h⟩ := Aj h
           refine qI AV Az a25 (Ag b25) rfl (qJ A7 Az (Ag b25) rfl ?_)
           obtain ⟨v26, a26, h⟩ := bind_some h
           refine CF (ds0 := [_, _]) (ar := (Co true Ai true Ai) ((v24, v25))) (.p rfl) rfl rfl ⟨rfl, rfl, tv⟩ rfl rfl rfl (CH (Dd _ _ _ _ BI BI) a26) ?_
           refine AX rfl (BW rfl (AB (by kernel_rfl) ?_))
           refine Ap rfl (fun c27 => ?_) (fun c27 => ?_)
           ·have h := Ao c27 h
            refine AS ?_
            exact Au _ h (sm [] _ _ rfl rfl)
           ·have h := An c27 h
            refine Aq (Aa Ac rfl (qm rfl (qm rfl (qm rfl (qm rfl (Bm rfl (qm rfl (qm rfl (Bm rfl ?_)))))))))
            obtain ⟨v28, a28, b28, h⟩ := Aj h
            refine qI AV Az a28 (Ag b28) rfl (qJ A7 Az (Ag b28) rfl (qm rfl (qm rfl ?_)))
            obtain ⟨v29, a29, b29, h⟩ := Aj h
            refine qI AV Az a29 (Ag b29) rfl (qJ A7 Az (Ag b29) rfl ?_)
            obtain ⟨v30, a30, b30, h⟩ := Aj h
            refine qI AV Az a30 (Ag b30) rfl ?_
            refine AY rfl rfl rfl rfl (Ag b30) rfl Az rfl (A6 rfl) (AZ Ai v21.1 _ v28) ?_
            obtain ⟨v31, a31, b31, h⟩ := Aj h
            refine qI AV Az a31 (Ag b31) rfl ?_
            refine AY rfl rfl rfl rfl (Ag b31) rfl Az rfl (A6 rfl) (AZ Ai (v21.1.set ((v21.2).toNat) v28) _ v29) ?_
            refine AB (by kernel_rfl) (Aa Ac rfl (qm rfl (Bm rfl (qa rfl (Ae ?_)))))
            exact Au _ h (sm [] _ _ rfl rfl)
          ·have h := An c23 h
           refine AS ?_
           exact Au _ h (sm [] _ _ rfl rfl)
         ·exact Au _ h (hs.trans (sm [] _ _ rfl rfl))
        ·have h := An c20 h
         refine Aq ?_
         exact Au _ h (sm [] _ _ rfl rfl)
       ·refine Ab (Aa Ac rfl (qm rfl (qm rfl (Bm rfl (Cz rfl (Ae ?_))))))
        refine Ap rfl (fun c32 => ?_) (fun c32 => ?_)
        ·have h := Ao c32 h
         refine Ab (Aa Ac rfl (qm rfl (AR rfl (qa rfl (Ae ?_)))))
         refine AE (L := Gs.partialInsertionSort_L33 N p2 p3) h (fun v33 => mk [(0, oD (.own 90000)), (1, iD p1), (2, iD p2), (3, oD (.clo (Bb (Co true Ai true Ai) Bi p3))), (9, iD v6), (10, iD v1.2.2), (12, iD v33.2)] [(90000, .vec 3 (v33.1.map Ai))]) (fun v34 => mk [(0, oD (.own 90000)), (1, iD p1), (2, iD p2), (3, oD (.clo (Bb (Co true Ai true Ai) Bi p3))), (9, iD v6), (10, iD v1.2.2)] [(90000, .vec 3 (v34.map Ai))]) (fun _ _ => rfl) (sm [] _ _ rfl rfl) (fun j33 n33 v33 h => ?_) (fun v34 s h hs => ?_)
         ·unfold Gs.partialInsertionSort_L33 at h
          refine Ab (Ab (Aa Ac rfl (qm rfl (qm rfl (AX rfl (Ae ?_))))))
          refine Ap rfl (fun c35 => ?_) (fun c35 => ?_)
          ·have h := Ao c35 h
           refine Aq (Ab (AK (Ab (Ab (Aa Ac rfl (qm rfl (qm rfl (qm rfl ?_))))))))
           obtain ⟨v36, a36, b36, h⟩ := Aj h
           refine qI AV Az a36 (Ag b36) rfl (qJ A7 Az (Ag b36) rfl (qm rfl (qm rfl (Bm rfl ?_))))
           obtain ⟨v37, a37, b37, h⟩ := Aj h
           refine qI AV Az a37 (Ag b37) rfl (qJ A7 Az (Ag b37) rfl ?_)
           obtain ⟨v38, a38, h⟩ := bind_some h
           refine CF (ds0 := [_, _]) (ar := (Co true Ai true Ai) ((v36, v37))) (.p rfl) rfl rfl ⟨rfl, rfl, tv⟩ rfl rfl rfl (CH (Dd _ _ _ _ BI BI) a38) ?_
           refine AX rfl (BW rfl (AB (by kernel_rfl) ?_))
           refine Ap rfl (fun c39 => ?_) (fun c39 => ?_)
           ·have h := Ao c39 h
            refine AS ?_
            exact Au _ h (sm [] _ _ rfl rfl)
           ·have h := An c39 h
            refine Aq (Aa Ac rfl (qm rfl (qm rfl (qm rfl (qm rfl (Bm rfl (qm rfl (qm rfl (Bm rfl ?_)))))))))
            obtain ⟨v40, a40, b40, h⟩ := Aj h
            refine qI AV Az a40 (Ag b40) rfl (qJ A7 Az (Ag b40) rfl (qm rfl (qm rfl ?_)))
            obtain ⟨v41, a41, b41, h⟩ := Aj h
            refine qI AV Az a41 (Ag b41) rfl (qJ A7 Az (Ag b41) rfl ?_)
            obtain ⟨v42, a42, b42, h⟩ := Aj h
            refine qI AV Az a42 (Ag b42) rfl ?_
            refine AY rfl rfl rfl rfl (Ag b42) rfl Az rfl (A6 rfl) (AZ Ai v33.1 _ v40) ?_
            obtain ⟨v43, a43, b43, h⟩ := Aj h
            refine qI AV Az a43 (Ag b43) rfl ?_
            refine AY rfl rfl rfl rfl (Ag b43) rfl Az rfl (A6 rfl) (AZ Ai (v33.1.set ((v33.2).toNat) v40) _ v41) ?_
            refine AB (by kernel_rfl) (Aa Ac rfl (qm rfl (AR rfl (qa rfl (Ae ?_)))))
            exact Au _ h (sm [] _ _ rfl rfl)
          ·have h := An c35 h
           refine AS ?_
           exact Au _ h (sm [] _ _ rfl rfl)
         ·exact Au _ h (hs.trans (sm [] _ _ rfl rfl))
        ·have h := An c32 h
         refine Aq ?_
         exact Au _ h (sm [] _ _ rfl rfl)
   ·refine Aa Ac rfl (qm rfl (AR rfl (qa rfl (Ae ?_))))
    exact Au _ h (sm [] _ _ rfl rfl)
  ·have h := An c3 h
   refine AS ?_
   exact Au _ h (sm [] _ _ rfl rfl)
 ·refine Am hs (Ab (Aa Ac rfl (qa rfl (Ae ?_))))
  obtain rfl := sj h
  refine Am (sm [] [(8, bD false)] [(90000, .vec 3 (v2.map Ai))] rfl rfl) (AA ?_)
  exact ⟨⟨[_], ⟨.tmp _ _ rfl, tv⟩, rfl⟩, ⟨rfl, tv⟩, tv⟩
theorem GQ (N : Nat) (p0 : List Af) (p1 : Int) (p2 : Int) (p3 : Int) (p4 : (Af × Af) → Option Int) (r : Int × (List Af)) (h : Gs.partitionEqual N p0 p1 p2 p3 p4 = some r) : Bj Tryz.prog 151 [oD (.own 90000), iD p1, iD p2, iD p3, oD (.clo (Bb (Co true Ai true Ai) Bi p4))] [(.vec 3 (p0.map Ai), .vec 3 (r.2.map Ai))] [] (iD r.1) := by
 unfold Gs.partitionEqual at h
 refine A9 (n := 90) (rs := [.tmp 10]) Tryz.func151 rfl rfl rfl (A6 rfl) (A6 rfl) rfl rfl (A6 rfl) rfl (A6 rfl) fun w0 S0 GL => ?_
 refine Am (sm [] [(0, oD (.own 90000)), (1, iD p1), (2, iD p2), (3, iD p3), (4, oD (.clo (Bb (Co true Ai true Ai) Bi p4)))] [(90000, .vec 3 (p0.map Ai))] rfl rfl) (Ab (Aa Ac rfl (qa rfl (Ae (Ab (Aa Ac rfl (qm rfl (qm rfl (qm rfl (qm rfl (qm rfl (qm rfl ?_))))))))))))
 obtain ⟨v1, a1, b1, h⟩ := Aj h
 refine qI AV Az a1 (Ag b1) rfl (qJ A7 Az (Ag b1) rfl (qm rfl (qm rfl ?_)))
 obtain ⟨v2, a2, b2, h⟩ := Aj h
 refine qI AV Az a2 (Ag b2) rfl (qJ A7 Az (Ag b2) rfl ?_)
 obtain ⟨v3, a3, b3, h⟩ := Aj h
 refine qI AV Az a3 (Ag b3) rfl ?_
 refine AY rfl rfl rfl rfl (Ag b3) rfl Az rfl (A6 rfl) (AZ Ai p0 _ v1) ?_
 obtain ⟨v4, a4, b4, h⟩ := Aj h
 refine qI AV Az a4 (Ag b4) rfl ?_
 refine AY rfl rfl rfl rfl (Ag b4) rfl Az rfl (A6 rfl) (AZ Ai (p0.set ((p1).toNat) v1) _ v2) ?_
 refine AB (by kernel_rfl) (Ab (Aa Ac rfl (qm rfl (AR rfl (qm rfl (Bm rfl (qa rfl (qa rfl (Ae (Ab ?_))))))))))
 refine AE (L := Gs.partitionEqual_L5 N p1 p4) h (fun v5 => mk [(0, oD (.own 90000)), (1, iD p1), (4, oD (.clo (Bb (Co true Ai true Ai) Bi p4))), (11, iD v5.2.1), (12, iD v5.2.2)] [(90000, .vec 3 (v5.1.map Ai))]) (fun v6 => mk [(11, iD v6.2)] [(90000, .vec 3 (v6.1.map Ai))]) (fun _ _ => rfl) (sm [] _ _ rfl rfl) (fun j5 n5 v5 h => ?_) (fun v6 s h hs => ?_)
 ·unfold Gs.partitionEqual_L5 at h
  refine AK (Ab ?_)
  refine AE (L := Gs.partitionEqual_L7 N p1 p4 v5) h (fun v7 => mk [(0, oD (.own 90000)), (1, iD p1), (4, oD (.clo (Bb (Co true Ai true Ai) Bi p4))), (11, iD v7), (12, iD v5.2.2)] [(90000, .vec 3 (v5.1.map Ai))]) (fun v8 => mk [(0, oD (.own 90000)), (1, iD p1), (4, oD (.clo (Bb (Co true Ai true Ai) Bi p4))), (11, iD v8), (12, iD v5.2.2)] [(90000, .vec 3 (v5.1.map Ai))]) (fun _ _ => rfl) (sm [] _ _ rfl rfl) (fun j7 n7 v7 h => ?_) (fun v8 s h hs => ?_)
  ·unfold Gs.partitionEqual_L7 at h
   refine Ab ?_
   refine AO h (fun v9 => mk [(0, oD (.own 90000)), (1, iD p1), (4, oD (.clo (Bb (Co true Ai true Ai) Bi p4))), (11, iD v7), (12, iD v5.2.2), (47, bD v9)] [(90000, .vec 3 (v5.1.map Ai))]) (fun j9 h => ?_) (fun v9 h => ?_)
   ·refine Aa Ac rfl (qm rfl (qm rfl (Ig rfl (qm rfl ?_))))
    refine AF (t := 34) rfl (fun c10 => ?_) (fun c10 => ?_)
    ·have h := Ao c10 h
     refine qm rfl (qm rfl (qm rfl ?_))
     obtain ⟨v11, a11, b11, h⟩ := Aj h
     refine qI AV Az a11 (Ag b11) rfl (qJ A7 Az (Ag b11) rfl (qm rfl (qm rfl ?_)))
     obtain ⟨v12, a12, b12, h⟩ := Aj h
     refine qI AV Az a12 (Ag b12) rfl (qJ A7 Az (Ag b12) rfl ?_)
     obtain ⟨v13, a13, h⟩ := bind_some h
     refine CF (ds0 := [_, _]) (ar := (Co true Ai true Ai) ((v11, v12))) (.g rfl rfl) rfl rfl ⟨rfl, rfl, tv⟩ rfl rfl rfl (CH (Dd _ _ _ _ BI BI) a13) ?_
     refine AX rfl (BW rfl (qp rfl (AB (by kernel_rfl) ?_)))
     exact Au _ h (sm [] _ _ rfl rfl)
    ·have h := An c10 h
     refine qn rfl (qn rfl (qn rfl (qn rfl (qn rfl (qn rfl (qn rfl (qn rfl (qn rfl (qn rfl (qn rfl (qn rfl (qp rfl (AB (by kernel_rfl) ?_)))))))))))))
     exact Au _ h (sm [] _ _ rfl rfl)
   ·refine Ap rfl (fun c14 => ?_) (fun c14 => ?_)
    ·have h := Ao c14 h
     refine Aq (AK (Aa Ac rfl (qm rfl (AR rfl (qa rfl (Ae ?_))))))
     exact Au _ h (sm [] _ _ rfl rfl)
    ·have h := An c14 h
     refine AS ?_
     exact Au _ h (sm [] _ _ rfl rfl)
  ·refine Am hs (Ab ?_)
   refine AE (L := Gs.partitionEqual_L15 N p1 p4 v5 v8) h (fun v15 => mk [(0, oD (.own 90000)), (1, iD p1), (4, oD (.clo (Bb (Co true Ai true Ai) Bi p4))), (11, iD v8), (12, iD v15)] [(90000, .vec 3 (v5.1.map Ai))]) (fun v16 => mk [(0, oD (.own 90000)), (1, iD p1), (4, oD (.clo (Bb (Co true Ai true Ai) Bi p4))), (11, iD v8), (12, iD v16)] [(90000, .vec 3 (v5.1.map Ai))]) (fun _ _ => rfl) (sm [] _ _ rfl rfl) (fun j15 n15 v15 h => ?_) (fun v16 s h hs => ?_)
   ·unfold Gs.partitionEqual_L15 at h
    refine Ab ?_
    refine AO h (fun v17 => mk [(0, oD (.own 90000)), (1, iD p1), (4, oD (.clo (Bb (Co true Ai true Ai) Bi p4))), (11, iD v8), (12, iD v15), (65, bD v17)] [(90000, .vec 3 (v5.1.map Ai))]) (fun j17 h => ?_) (fun v17 h => ?_)
    ·refine Aa Ac rfl (qm rfl (qm rfl (Ig rfl (qm rfl ?_))))
     refine AF (t := 53) rfl (fun c18 => ?_) (fun c18 => ?_)
     ·have h := Ao c18 h
      refine qm rfl (qm rfl (qm rfl ?_))
      obtain ⟨v19, a19, b19, h⟩ := Aj h
      refine qI AV Az a19 (Ag b19) rfl (qJ A7 Az (Ag b19) rfl (qm rfl (qm rfl ?_)))
      obtain ⟨v20, a20, b20, h⟩ := Aj h
      refine qI AV Az a20 (Ag b20) rfl (qJ A7 Az (Ag b20) rfl ?_)
      obtain ⟨v21, a21, h⟩ := bind_some h
      refine CF (ds0 := [_, _]) (ar := (Co true Ai true Ai) ((v19, v20))) (.g rfl rfl) rfl rfl ⟨rfl, rfl, tv⟩ rfl rfl rfl (CH (Dd _ _ _ _ BI BI) a21) ?_
      refine AX rfl (qp rfl (AB (by kernel_rfl) ?_))
      exact Au _ h (sm [] _ _ rfl rfl)
     ·have h := An c18 h
      refine qn rfl (qn rfl (qn rfl (qn rfl (qn rfl (qn rfl (qn rfl (qn rfl (qn rfl (qn rfl (qn rfl (qp rfl (AB (by kernel_rfl) ?_))))))))))))
      exact Au _ h (sm [] _ _ rfl rfl)
    ·refine Ap rfl (fun c22 => ?_) (fun c22 => ?_)
     ·have h := Ao c22 h
      refine Aq (AK (Aa Ac rfl (qm rfl (Bm rfl (qa rfl (Ae ?_))))))
      exact Au _ h (sm [] _ _ rfl rfl)
     ·have h := An c22 h
      refine AS ?_
      exact Au _ h (sm [] _ _ rfl rfl)
   ·refine Am hs (Ab (Ab (Aa Ac rfl (qm rfl (qm rfl (E2 rfl (Ae ?_)))))))
    refine Ap rfl (fun c23 => ?_) (fun c23 => ?_)
    ·have h := Ao c23 h
     refine AS ?_
     exact Au _ h (sm [] _ _ rfl rfl)
    ·have h := An c23 h
     refine Aq (Ab (Aa Ac rfl (qm rfl (qm rfl (qm rfl (qm rfl (qm rfl (qm rfl ?_))))))))
     obtain ⟨v24, a24, b24, h⟩ := Aj h
     refine qI AV Az a24 (Ag b24) rfl (qJ A7 Az (Ag b24) rfl (qm rfl (qm rfl ?_)))
     obtain ⟨v25, a25, b25, h⟩ := Aj h
     refine qI AV Az a25 (Ag b25) rfl (qJ A7 Az (Ag b25) rfl ?_)
     obtain ⟨v26, a26, b26, h⟩ := Aj h
     refine qI AV Az a26 (Ag b26) rfl ?_
     refine AY rfl rfl rfl rfl (Ag b26) rfl Az rfl (A6 rfl) (AZ Ai v5.1 _ v24) ?_
     obtain ⟨v27, a27, b27, h⟩ := Aj h
     refine qI AV Az a27 (Ag b27) rfl ?_
     refine AY rfl rfl rfl rfl (Ag b27) rfl Az rfl (A6 rfl) (AZ Ai (v5.1.set ((v8).toNat) v24) _ v25) ?_
     refine AB (by kernel_rfl) (Ab (Aa Ac rfl (qm rfl (AR rfl (qa rfl (Ae (Aa Ac rfl (qm rfl (Bm rfl (qa rfl (Ae ?_)))))))))))
     exact Au _ h (sm [] _ _ rfl rfl)
 ·refine Am hs (Ab (Aa Ac rfl (qm rfl (qa rfl (Ae ?_)))))
  obtain rfl := sj h
  refine Am (sm [] [(10, iD v6.2)] [(90000, .vec 3 (v6.1.map Ai))] rfl rfl) (AA ?_)
  exact ⟨⟨[_], ⟨.tmp _ _ rfl, tv⟩, rfl⟩, ⟨rfl, tv⟩, tv⟩
theorem HL (N : Nat) (p0 : List Af) (p1 : Int) (p2 : Int) (p3 : Int) (p4 : (Af × Af) → Option Int) (r : Int × Bool × (List Af)) (h : Gs.partition N p0 p1 p2 p3 p4 = some r) : Bj Tryz.prog 152 [oD (.own 90000), iD p1, iD p2, iD p3, oD (.clo (Bb (Co true Ai true Ai) Bi p4))] [(.vec 3 (p0.map Ai), .vec 3 (r.2.2.map Ai))] [] (.tup [.one (iC r.1), .one (.pure (.val (.bool r.2.1)))]) := by
 unfold Gs.partition at h
 refine A9 (n := 178) (rs := [.tmp 10, .tmp 11]) Tryz.func152 rfl rfl rfl (A6 rfl) (A6 rfl) rfl rfl (A6 rfl) rfl (A6 rfl) fun w0 S0 GL => ?_
 refine Am (sm [] [(0, oD (.own 90000)), (1, iD p1), (2, iD p2), (3, iD p3), (4, oD (.clo (Bb (Co true Ai true Ai) Bi p4)))] [(90000, .vec 3 (p0.map Ai))] rfl rfl) (Ab (Aa Ac rfl (qa rfl (qa rfl (Ae (Ab (Aa Ac rfl (qm rfl (qm rfl (qm rfl (qm rfl (qm rfl (qm rfl ?_)))))))))))))
 obtain ⟨v1, a1, b1, h⟩ := Aj h
 refine qI AV Az a1 (Ag b1) rfl (qJ A7 Az (Ag b1) rfl (qm rfl (qm rfl ?_)))
 obtain ⟨v2, a2, b2, h⟩ := Aj h
 refine qI AV Az a2 (Ag b2) rfl (qJ A7 Az (Ag b2) rfl ?_)
 obtain ⟨v3, a3, b3, h⟩ := Aj h
 refine qI AV Az a3 (Ag b3) rfl ?_
 refine AY rfl rfl rfl rfl (Ag b3) rfl Az rfl (A6 rfl) (AZ Ai p0 _ v1) ?_
 obtain ⟨v4, a4, b4, h⟩ := Aj h
 refine qI AV Az a4 (Ag b4) rfl ?_
 refine AY rfl rfl rfl rfl (Ag b4) rfl Az rfl (A6 rfl) (AZ Ai (p0.set ((p1).toNat) v1) _ v2) ?_
 refine AB (by kernel_rfl) (Ab (Aa Ac rfl (qm rfl (AR rfl (qm rfl (Bm rfl (qa rfl (qa rfl (Ae (Ab ?_))))))))))
 refine AE (L := Gs.partition_L5 N p0 p1 p2 p3 p4 v1 v2) h (fun v5 => mk [(0, oD (.own 90000)), (1, iD p1), (4, oD (.clo (Bb (Co true Ai true Ai) Bi p4))), (12, iD v5), (13, iD ((wI .i64 (p2 - 1))))] [(90000, .vec 3 (((p0.set ((p1).toNat) v1).set ((p3).toNat) v2).map Ai))]) (fun v6 => mk [(0, oD (.own 90000)), (1, iD p1), (4, oD (.clo (Bb (Co true Ai true Ai) Bi p4))), (12, iD v6), (13, iD ((wI .i64 (p2 - 1))))] [(90000, .vec 3 (((p0.set ((p1).toNat) v1).set ((p3).toNat) v2).map Ai))]) (fun _ _ => rfl) (sm [] _ _ rfl rfl) (fun j5 n5 v5 h => ?_) (fun v6 s h hs => ?_)
 ·unfold Gs.partition_L5 at h
  refine Ab ?_
  refine AO h (fun v7 => mk [(0, oD (.own 90000)), (1, iD p1), (4, oD (.clo (Bb (Co true Ai true Ai) Bi p4))), (12, iD v5), (13, iD ((wI .i64 (p2 - 1)))), (47, bD v7)] [(90000, .vec 3 (((p0.set ((p1).toNat) v1).set ((p3).toNat) v2).map Ai))]) (fun j7 h => ?_) (fun v7 h => ?_)
  ·refine Aa Ac rfl (qm rfl (qm rfl (Ig rfl (qm rfl ?_))))
   refine AF (t := 35) rfl (fun c8 => ?_) (fun c8 => ?_)
   ·have h := Ao c8 h
    refine qm rfl (qm rfl (qm rfl ?_))
    obtain ⟨v9, a9, b9, h⟩ := Aj h
    refine qI AV Az a9 (Ag b9) rfl (qJ A7 Az (Ag b9) rfl (qm rfl (qm rfl ?_)))
    obtain ⟨v10, a10, b10, h⟩ := Aj h
    refine qI AV Az a10 (Ag b10) rfl (qJ A7 Az (Ag b10) rfl ?_)
    obtain ⟨v11, a11, h⟩ := bind_some h
    refine CF (ds0 := [_, _]) (ar := (Co true Ai true Ai) ((v9, v10))) (.g rfl rfl) rfl rfl ⟨rfl, rfl, tv⟩ rfl rfl rfl (CH (Dd _ _ _ _ BI BI) a11) ?_
    refine AX rfl (qp rfl (AB (by kernel_rfl) ?_))
    exact Au _ h (sm [] _ _ rfl rfl)
   ·have h := An c8 h
    refine qn rfl (qn rfl (qn rfl (qn rfl (qn rfl (qn rfl (qn rfl (qn rfl (qn rfl (qn rfl (qn rfl (qp rfl (AB (by kernel_rfl) ?_))))))))))))
    exact Au _ h (sm [] _ _ rfl rfl)
  ·refine Ap rfl (fun c12 => ?_) (fun c12 => ?_)
   ·have h := Ao c12 h
    refine Aq (AK (Aa Ac rfl (qm rfl (AR rfl (qa rfl (Ae ?_))))))
    exact Au _ h (sm [] _ _ rfl rfl)
   ·have h := An c12 h
    refine AS ?_
    exact Au _ h (sm [] _ _ rfl rfl)
 ·refine Am hs (Ab ?_)
  refine AE (L := Gs.partition_L13 N p0 p1 p3 p4 v1 v2 v6) h (fun v13 => mk [(0, oD (.own 90000)), (1, iD p1), (4, oD (.clo (Bb (Co true Ai true Ai) Bi p4))), (12, iD v6), (13, iD v13)] [(90000, .vec 3 (((p0.set ((p1).toNat) v1).set ((p3).toNat) v2).map Ai))]) (fun v14 => mk [(0, oD (.own 90000)), (1, iD p1), (4, oD (.clo (Bb (Co true Ai true Ai) Bi p4))), (12, iD v6), (13, iD v14)] [(90000, .vec 3 (((p0.set ((p1).toNat) v1).set ((p3).toNat) v2).map Ai))]) (fun _ _ => rfl) (sm [] _ _ rfl rfl) (fun j13 n13 v13 h => ?_) (fun v14 s h hs => ?_)
  ·unfold Gs.partition_L13 at h
   refine Ab ?_
   refine AO h (fun v15 => mk [(0, oD (.own 90000)), (1, iD p1), (4, oD (.clo (Bb (Co true Ai true Ai) Bi p4))), (12, iD v6), (13, iD v13), (66, bD v15)] [(90000, .vec 3 (((p0.set ((p1).toNat) v1).set ((p3).toNat) v2).map Ai))]) (fun j15 h => ?_) (fun v15 h => ?_)
   ·refine Aa Ac rfl (qm rfl (qm rfl (Ig rfl (qm rfl ?_))))
    refine AF (t := 53) rfl (fun c16 => ?_) (fun c16 => ?_)
    ·have h := Ao c16 h
     refine qm rfl (qm rfl (qm rfl ?_))
     obtain ⟨v17, a17, b17, h⟩ := Aj h
     refine qI AV Az a17 (Ag b17) rfl (qJ A7 Az (Ag b17) rfl (qm rfl (qm rfl ?_)))
     obtain ⟨v18, a18, b18, h⟩ := Aj h
     refine qI AV Az a18 (Ag b18) rfl (qJ A7 Az (Ag b18) rfl ?_)
     obtain ⟨v19, a19, h⟩ := bind_some h
     refine CF (ds0 := [_, _]) (ar := (Co true Ai true Ai) ((v17, v18))) (.g rfl rfl) rfl rfl ⟨rfl, rfl, tv⟩ rfl rfl rfl (CH (Dd _ _ _ _ BI BI) a19) ?_
     refine AX rfl (BW rfl (qp rfl (AB (by kernel_rfl) ?_)))
     exact Au _ h (sm [] _ _ rfl rfl)
    ·have h := An c16 h
     refine qn rfl (qn rfl (qn rfl (qn rfl (qn rfl (qn rfl (qn rfl (qn rfl (qn rfl (qn rfl (qn rfl (qn rfl (qp rfl (AB (by kernel_rfl) ?_)))))))))))))
     exact Au _ h (sm [] _ _ rfl rfl)
   ·refine Ap rfl (fun c20 => ?_) (fun c20 => ?_)
    ·have h := Ao c20 h
     refine Aq (AK (Aa Ac rfl (qm rfl (Bm rfl (qa rfl (Ae ?_))))))
     exact Au _ h (sm [] _ _ rfl rfl)
    ·have h := An c20 h
     refine AS ?_
     exact Au _ h (sm [] _ _ rfl rfl)
  ·refine Am hs (Ab (Ab (Aa Ac rfl (qm rfl (qm rfl (E2 rfl (Ae ?_)))))))
   refine Ap rfl (fun c21 => ?_) (fun c21 => ?_)
   ·have h := Ao c21 h
    refine Ab (Aa Ac rfl (qm rfl (qm rfl (qm rfl (qm rfl (qm rfl (qm rfl ?_)))))))
    obtain ⟨v22, a22, b22, h⟩ := Aj h
    refine qI AV Az a22 (Ag b22) rfl (qJ A7 Az (Ag b22) rfl (qm rfl (qm rfl ?_)))
    obtain ⟨v23, a23, b23, h⟩ := Aj h
    refine qI AV Az a23 (Ag b23) rfl (qJ A7 Az (Ag b23) rfl ?_)
    obtain ⟨v24, a24, b24, h⟩ := Aj h
    refine qI AV Az a24 (Ag b24) rfl ?_
    refine AY rfl rfl rfl rfl (Ag b24) rfl Az rfl (A6 rfl) (AZ Ai ((p0.set ((p1).toNat) v1).set ((p3).toNat) v2) _ v22) ?_
    obtain ⟨v25, a25, b25, h⟩ := Aj h
    refine qI AV Az a25 (Ag b25) rfl ?_
    refine AY rfl rfl rfl rfl (Ag b25) rfl Az rfl (A6 rfl) (AZ Ai (((p0.set ((p1).toNat) v1).set ((p3).toNat) v2).set ((v14).toNat) v22) _ v23) ?_
    refine AB (by kernel_rfl) (Ab (Aa Ac rfl (qm rfl (qa rfl (qa rfl (Ae ?_))))))
    obtain rfl := sj h
    refine Am (sm [] [(10, iD v14), (11, bD true)] [(90000, .vec 3 (((((p0.set ((p1).toNat) v1).set ((p3).toNat) v2).set ((v14).toNat) v22).set ((p1).toNat) v23).map Ai))] rfl rfl) (AA ?_)
    exact ⟨⟨[_, _], ⟨.tmp _ _ rfl, ⟨.tmp _ _ rfl, tv⟩⟩, rfl⟩, ⟨rfl, tv⟩, tv⟩
   ·have h := An c21 h
    refine Aq (Ab (Aa Ac rfl (qm rfl (qm rfl (qm rfl (qm rfl (qm rfl (qm rfl ?_))))))))
    obtain ⟨v26, a26, b26, h⟩ := Aj h
    refine qI AV Az a26 (Ag b26) rfl (qJ A7 Az (Ag b26) rfl (qm rfl (qm rfl ?_)))
    obtain ⟨v27, a27, b27, h⟩ := Aj h
    refine qI AV Az a27 (Ag b27) rfl (qJ A7 Az (Ag b27) rfl ?_)
    obtain ⟨v28, a28, b28, h⟩ := Aj h
    refine qI AV Az a28 (Ag b28) rfl ?_
    refine AY rfl rfl rfl rfl (Ag b28) rfl Az rfl (A6 rfl) (AZ Ai ((p0.set ((p1).toNat) v1).set ((p3).toNat) v2) _ v26) ?_
    obtain ⟨v29, a29, b29, h⟩ := Aj h
    refine qI AV Az a29 (Ag b29) rfl ?_
    refine AY rfl rfl rfl rfl (Ag b29) rfl Az rfl (A6 rfl) (AZ Ai (((p0.set ((p1).toNat) v1).set ((p3).toNat) v2).set ((v6).toNat) v26) _ v27) ?_
    refine AB (by kernel_rfl) (Ab (Aa Ac rfl (qm rfl (AR rfl (qa rfl (Ae (Ab (Aa Ac rfl (qm rfl (Bm rfl (qa rfl (Ae (Ab ?_)))))))))))))
    refine AE (L := Gs.partition_L30 N p1 p4) h (fun v30 => mk [(0, oD (.own 90000)), (1, iD p1), (4, oD (.clo (Bb (Co true Ai true Ai) Bi p4))), (12, iD v30.2.1), (13, iD v30.2.2)] [(90000, .vec 3 (v30.1.map Ai))]) (fun v31 => mk [(0, oD (.own 90000)), (1, iD p1), (13, iD v31.2)] [(90000, .vec 3 (v31.1.map Ai))]) (fun _ _ => rfl) (sm [] _ _ rfl rfl) (fun j30 n30 v30 h => ?_) (fun v31 s h hs => ?_)
    ·unfold Gs.partition_L30 at h
     refine AK (Ab ?_)
     refine AE (L := Gs.partition_L32 N p1 p4 v30) h (fun v32 => mk [(0, oD (.own 90000)), (1, iD p1), (4, oD (.clo (Bb (Co true Ai true Ai) Bi p4))), (12, iD v32), (13, iD v30.2.2)] [(90000, .vec 3 (v30.1.map Ai))]) (fun v33 => mk [(0, oD (.own 90000)), (1, iD p1), (4, oD (.clo (Bb (Co true Ai true Ai) Bi p4))), (12, iD v33), (13, iD v30.2.2)] [(90000, .vec 3 (v30.1.map Ai))]) (fun _ _ => rfl) (sm [] _ _ rfl rfl) (fun j32 n32 v32 h => ?_) (fun v33 s h hs => ?_)
     ·unfold Gs.partition_L32 at h
      refine Ab ?_
      refine AO h (fun v34 => mk [(0, oD (.own 90000)), (1, iD p1), (4, oD (.clo (Bb (Co true Ai true Ai) Bi p4))), (12, iD v32), (13, iD v30.2.2), (120, bD v34)] [(90000, .vec 3 (v30.1.map Ai))]) (fun j34 h => ?_) (fun v34 h => ?_)
      ·refine Aa Ac rfl (qm rfl (qm rfl (Ig rfl (qm rfl ?_))))
       refine AF (t := 108) rfl (fun c35 => ?_) (fun c35 => ?_)
       ·have h := Ao c35 h
        refine qm rfl (qm rfl (qm rfl ?_))
        obtain ⟨v36, a36, b36, h⟩ := Aj h
        refine qI AV Az a36 (Ag b36) rfl (qJ A7 Az (Ag b36) rfl (qm rfl (qm rfl ?_)))
        obtain ⟨v37, a37, b37, h⟩ := Aj h
        refine qI AV Az a37 (Ag b37) rfl (qJ A7 Az (Ag b37) rfl ?_)
        obtain ⟨v38, a38, h⟩ := bind_some h
        refine CF (ds0 := [_, _]) (ar := (Co true Ai true Ai) ((v36, v37))) (.g rfl rfl) rfl rfl ⟨rfl, rfl, tv⟩ rfl rfl rfl (CH (Dd _ _ _ _ BI BI) a38) ?_
        refine AX rfl (qp rfl (AB (by kernel_rfl) ?_))
        exact Au _ h (sm [] _ _ rfl rfl)
       ·have h := An c35 h
        refine qn rfl (qn rfl (qn rfl (qn rfl (qn rfl (qn rfl (qn rfl (qn rfl (qn rfl (qn rfl (qn rfl (qp rfl (AB (by kernel_rfl) ?_))))))))))))
        exact Au _ h (sm [] _ _ rfl rfl)
      ·refine Ap rfl (fun c39 => ?_) (fun c39 => ?_)
       ·have h := Ao c39 h
        refine Aq (AK (Aa Ac rfl (qm rfl (AR rfl (qa rfl (Ae ?_))))))
        exact Au _ h (sm [] _ _ rfl rfl)
       ·have h := An c39 h
        refine AS ?_
        exact Au _ h (sm [] _ _ rfl rfl)
     ·refine Am hs (Ab ?_)
      refine AE (L := Gs.partition_L40 N p1 p4 v30 v33) h (fun v40 => mk [(0, oD (.own 90000)), (1, iD p1), (4, oD (.clo (Bb (Co true Ai true Ai) Bi p4))), (12, iD v33), (13, iD v40)] [(90000, .vec 3 (v30.1.map Ai))]) (fun v41 => mk [(0, oD (.own 90000)), (1, iD p1), (4, oD (.clo (Bb (Co true Ai true Ai) Bi p4))), (12, iD v33), (13, iD v41)] [(90000, .vec 3 (v30.1.map Ai))]) (fun _ _ => rfl) (sm [] _ _ rfl rfl) (fun j40 n40 v40 h => ?_) (fun v41 s h hs => ?_)
      ·unfold Gs.partition_L40 at h
       refine Ab ?_
       refine AO h (fun v42 => mk [(0, oD (.own 90000)), (1, iD p1), (4, oD (.clo (Bb (Co true Ai true Ai) Bi p4))), (12, iD v33), (13, iD v40), (139, bD v42)] [(90000, .vec 3 (v30.1.map Ai))]) (fun j42 h => ?_) (fun v42 h => ?_)
       ·refine Aa Ac rfl (qm rfl (qm rfl (Ig rfl (qm rfl ?_))))
        refine AF (t := 126) rfl (fun c43 => ?_) (fun c43 => ?_)
        ·have h := Ao c43 h
         refine qm rfl (qm rfl (qm rfl ?_))
         obtain ⟨v44, a44, b44, h⟩ := Aj h
         refine qI AV Az a44 (Ag b44) rfl (qJ A7 Az (Ag b44) rfl (qm rfl (qm rfl ?_)))
         obtain ⟨v45, a45, b45, h⟩ := Aj h
         refine qI AV Az a45 (Ag b45) rfl (qJ A7 Az (Ag b45) rfl ?_)
         obtain ⟨v46, a46, h⟩ := bind_some h
         refine CF (ds0 := [_, _]) (ar := (Co true Ai true Ai) ((v44, v45))) (.g rfl rfl) rfl rfl ⟨rfl, rfl, tv⟩ rfl rfl rfl (CH (Dd _ _ _ _ BI BI) a46) ?_
         refine AX rfl (BW rfl (qp rfl (AB (by kernel_rfl) ?_)))
         exact Au _ h (sm [] _ _ rfl rfl)
        ·have h := An c43 h
         refine qn rfl (qn rfl (qn rfl (qn rfl (qn rfl (qn rfl (qn rfl (qn rfl (qn rfl (qn rfl (qn rfl (qn rfl (qp rfl (AB (by kernel_rfl) ?_)))))))))))))
         exact Au _ h (sm [] _ _ rfl rfl)
       ·refine Ap rfl (fun c47 => ?_) (fun c47 => ?_)
        ·have h := Ao c47 h
         refine Aq (AK (Aa Ac rfl (qm rfl (Bm rfl (qa rfl (Ae ?_))))))
         exact Au _ h (sm [] _ _ rfl rfl)
        ·have h := An c47 h
         refine AS ?_
         exact Au _ h (sm [] _ _ rfl rfl)
      ·refine Am hs (Ab (Ab (Aa Ac rfl (qm rfl (qm rfl (E2 rfl (Ae ?_)))))))
       refine Ap rfl (fun c48 => ?_) (fun c48 => ?_)
       ·have h := Ao c48 h
        refine AS ?_
        exact Au _ h (sm [] _ _ rfl rfl)
       ·have h := An c48 h
        refine Aq (Ab (Aa Ac rfl (qm rfl (qm rfl (qm rfl (qm rfl (qm rfl (qm rfl ?_))))))))
        obtain ⟨v49, a49, b49, h⟩ := Aj h
        refine qI AV Az a49 (Ag b49) rfl (qJ A7 Az (Ag b49) rfl (qm rfl (qm rfl ?_)))
        obtain ⟨v50, a50, b50, h⟩ := Aj h
        refine qI AV Az a50 (Ag b50) rfl (qJ A7 Az (Ag b50) rfl ?_)
        obtain ⟨v51, a51, b51, h⟩ := Aj h
        refine qI AV Az a51 (Ag b51) rfl ?_
        refine AY rfl rfl rfl rfl (Ag b51) rfl Az rfl (A6 rfl) (AZ Ai v30.1 _ v49) ?_
        obtain ⟨v52, a52, b52, h⟩ := Aj h
        refine qI AV Az a52 (Ag b52) rfl ?_
        refine AY rfl rfl rfl rfl (Ag b52) rfl Az rfl (A6 rfl) (AZ Ai (v30.1.set ((v33).toNat) v49) _ v50) ?_
        refine AB (by kernel_rfl) (Ab (Aa Ac rfl (qm rfl (AR rfl (qa rfl (Ae (Aa Ac rfl (qm rfl (Bm rfl (qa rfl (Ae ?_)))))))))))
        exact Au _ h (sm [] _ _ rfl rfl)
    ·refine Am hs (Ab (Aa Ac rfl (qm rfl (qm rfl (qm rfl (qm rfl (qm rfl (qm rfl ?_))))))))
     obtain ⟨v53, a53, b53, h⟩ := Aj h
     refine qI AV Az a53 (Ag b53) rfl (qJ A7 Az (Ag b53) rfl (qm rfl (qm rfl ?_)))
     obtain ⟨v54, a54, b54, h⟩ := Aj h
     refine qI AV Az a54 (Ag b54) rfl (qJ A7 Az (Ag b54) rfl ?_)
     obtain ⟨v55, a55, b55, h⟩ := Aj h
     refine qI AV Az a55 (Ag b55) rfl ?_
     refine AY rfl rfl rfl rfl (Ag b55) rfl Az rfl (A6 rfl) (AZ Ai v31.1 _ v53) ?_
     obtain ⟨v56, a56, b56, h⟩ := Aj h
     refine qI AV Az a56 (Ag b56) rfl ?_
     refine AY rfl rfl rfl rfl (Ag b56) rfl Az rfl (A6 rfl) (AZ Ai (v31.1.set ((v31.2).toNat) v53) _ v54) ?_
     refine AB (by kernel_rfl) (Ab (Aa Ac rfl (qm rfl (qa rfl (qa rfl (Ae ?_))))))
     obtain rfl := sj h
     refine Am (sm [] [(10, iD v31.2), (11, bD false)] [(90000, .vec 3 (((v31.1.set ((v31.2).toNat) v53).set ((p1).toNat) v54).map Ai))] rfl rfl) (AA ?_)
     exact ⟨⟨[_, _], ⟨.tmp _ _ rfl, ⟨.tmp _ _ rfl, tv⟩⟩, rfl⟩, ⟨rfl, tv⟩, tv⟩
theorem HM (N : Nat) (rc : (List Af) → Int → Int → Int → ((Af × Af) → Option Int) → Option ((List Af))) (hrc : ∀ (p0 : List Af) (p1 : Int) (p2 : Int) (p3 : Int) (p4 : (Af × Af) → Option Int) (r : (List Af)), rc p0 p1 p2 p3 p4 = some r → Bj Tryz.prog 118 [oD (.own 90000), iD p1, iD p2, iD p3, oD (.clo (Bb (Co true Ai true Ai) Bi p4))] [(.vec 3 (p0.map Ai), .vec 3 (r.map Ai))] [] (.tup [])) (p0 : List Af) (p1 : Int) (p2 : Int) (p3 : Int) (p4 : (Af × Af) → Option Int) (r : (List Af)) (h : Gs.pdqsort_B N rc p0 p1 p2 p3 p4 = some r) : Bj Tryz.prog 118 [oD (.own 90000), iD p1, iD p2, iD p3, oD (.clo (Bb (Co true Ai true Ai) Bi p4))] [(.vec 3 (p0.map Ai), .vec 3 (r.map Ai))] [] (.tup []) := by
 unfold Gs.pdqsort_B at h
 refine A9 (n := 148) (rs := []) Tryz.func118 rfl rfl rfl (A6 rfl) (A6 rfl) rfl rfl (A6 rfl) rfl (A6 rfl) fun w0 S0 GL => JI ?_
 refine Am (sm [] [(0, oD (.own 90000)), (1, iD p1), (2, iD p2), (3, iD p3), (4, oD (.clo (Bb (Co true Ai true Ai) Bi p4)))] [(90000, .vec 3 (p0.map Ai))] rfl rfl) (Ab (Aa Ac rfl (qa rfl (Ae (Ab (Aa Ac rfl (qa rfl (Ae ?_))))))))
 refine AE (L := Gs.pdqsort_L1 N p4 rc) h (fun v1 => mk [(0, oD (.own 90000)), (1, iD v1.2.1), (2, iD v1.2.2.1), (3, iD v1.2.2.2.1), (4, oD (.clo (Bb (Co true Ai true Ai) Bi p4))), (10, bD v1.2.2.2.2.1), (11, bD v1.2.2.2.2.2)] [(90000, .vec 3 (v1.1.map Ai))]) (fun v2 => mk [] []) (fun _ _ => rfl) (sm [] _ _ rfl rfl) (fun j1 n1 v1 h => ?_) (fun v2 s h hs => ?_)
 ·unfold Gs.pdqsort_L1 at h
  refine AK (Ab (Aa Ac rfl (qm rfl (qm rfl (Bm rfl (qa rfl (Ae (Ab (Ab (Aa Ac rfl (qm rfl (Ig rfl (Ae ?_)))))))))))))
  refine Ap rfl (fun c3 => ?_) (fun c3 => ?_)
  ·have h := Ao c3 h
   refine Ab (Aa Ac rfl (qm rfl (qm rfl (qm rfl (qm rfl ?_)))))
   obtain ⟨v4, a4, h⟩ := bind_some h
   refine BA (ds0 := [_, _, _, _]) [90000] [] [true] (GV N v1.1 v1.2.1 v1.2.2.1 p4 v4 a4) (.p rfl) Ze rfl ⟨rfl, rfl, rfl, rfl, tv⟩ rfl rfl (by decide) ⟨rfl, tv⟩ rfl (A3 rfl) tv ⟨(fun h => by cases h), tv⟩ rfl rfl rfl ?_
   refine Ae ?_
   obtain rfl := sj h
   refine AA ⟨_, (sm [] [] [(90000, .vec 3 (v4.map Ai))] rfl rfl), ?_⟩
   exact ⟨⟨[], tv, rfl⟩, ⟨rfl, tv⟩, tv⟩
  ·have h := An c3 h
   refine Aq (Ab (Ab (Aa Ac rfl (qm rfl (BK rfl (Ae ?_))))))
   refine Ap rfl (fun c5 => ?_) (fun c5 => ?_)
   ·have h := Ao c5 h
    refine Ab (Aa Ac rfl (qm rfl (qm rfl (qm rfl (qm rfl ?_)))))
    obtain ⟨v6, a6, h⟩ := bind_some h
    refine BA (ds0 := [_, _, _, _]) [90000] [] [true] (HY N v1.1 v1.2.1 v1.2.2.1 p4 v6 a6) (.p rfl) ZT rfl ⟨rfl, rfl, rfl, rfl, tv⟩ rfl rfl (by decide) ⟨rfl, tv⟩ rfl (A3 rfl) tv ⟨(fun h => by cases h), tv⟩ rfl rfl rfl ?_
    refine Ae ?_
    obtain rfl := sj h
    refine AA ⟨_, (sm [] [] [(90000, .vec 3 (v6.map Ai))] rfl rfl), ?_⟩
    exact ⟨⟨[], tv, rfl⟩, ⟨rfl, tv⟩, tv⟩
   ·have h := An c5 h
    refine Aq ?_
    refine AO h (fun v7 => mk [(0, oD (.own 90000)), (1, iD v1.2.1), (2, iD v1.2.2.1), (3, iD v7.2), (4, oD (.clo (Bb (Co true Ai true Ai) Bi p4))), (10, bD v1.2.2.2.2.1), (11, bD v1.2.2.2.2.2), (12, iD ((wI .i64 (v1.2.2.1 - v1.2.1))))] [(90000, .vec 3 (v7.1.map Ai))]) (fun j7 h => ?_) (fun v7 h => ?_)
    ·refine Ab (Aa Ac rfl (qm rfl (BW rfl (Ae ?_))))
     refine Ap rfl (fun c8 => ?_) (fun c8 => ?_)
     ·have h := Ao c8 h
      refine Ab (Aa Ac rfl (qm rfl (qm rfl (qm rfl (qm rfl ?_)))))
      obtain ⟨v9, a9, h⟩ := bind_some h
      refine BA (ds0 := [_, _, _, _]) [90000] [] [true] (GT N v1.1 v1.2.1 v1.2.2.1 p4 v9 a9) (.p rfl) ZK rfl ⟨rfl, rfl, rfl, rfl, tv⟩ rfl rfl (by decide) ⟨rfl, tv⟩ rfl (A3 rfl) tv ⟨(fun h => by cases h), tv⟩ rfl rfl rfl ?_
      refine Ae (Aa Ac rfl (qm rfl (Bm rfl (qa rfl (Ae ?_)))))
      exact Au _ h (sm [] _ _ rfl rfl)
     ·have h := An c8 h
      refine Aq ?_
      exact Au _ h (sm [] _ _ rfl rfl)
    ·refine Ab (Aa Ac rfl (qm rfl (qm rfl (qm rfl (qm rfl ?_)))))
     obtain ⟨v10, a10, h⟩ := bind_some h
     refine Dj [] [90000] (Ho N v7.1 v1.2.1 v1.2.2.1 p4 v10 a10) Zr B4 rfl (qm rfl (qx rfl (qx rfl (qa rfl (qa rfl (Ae ?_))))))
     refine AO h (fun v11 => mk [(0, oD (.own 90000)), (1, iD v1.2.1), (2, iD v1.2.2.1), (3, iD v7.2), (4, oD (.clo (Bb (Co true Ai true Ai) Bi p4))), (10, bD v1.2.2.2.2.1), (11, bD v1.2.2.2.2.2), (12, iD ((wI .i64 (v1.2.2.1 - v1.2.1)))), (13, iD v11.2.1), (14, iD v11.2.2)] [(90000, .vec 3 (v11.1.map Ai))]) (fun j11 h => ?_) (fun v11 h => ?_)
     ·refine Ab (Aa Ac rfl (qm rfl (BK rfl (Ae ?_))))
      refine Ap rfl (fun c12 => ?_) (fun c12 => ?_)
      ·have h := Ao c12 h
       refine Ab (Aa Ac rfl (qm rfl (qm rfl (qm rfl (qm rfl ?_)))))
       obtain ⟨v13, a13, h⟩ := bind_some h
       refine BA (ds0 := [_, _, _, _]) [90000] [] [true] (G9 N v7.1 v1.2.1 v1.2.2.1 p4 v13 a13) (.p rfl) Zt rfl ⟨rfl, rfl, rfl, rfl, tv⟩ rfl rfl (by decide) ⟨rfl, tv⟩ rfl (A3 rfl) tv ⟨(fun h => by cases h), tv⟩ rfl rfl rfl ?_
       refine Ae (Ab (Aa Ac rfl (qm rfl (Bm rfl (qm rfl (qm rfl (Bm rfl (Bm rfl (qa rfl (Ae (Aa Ac rfl (qa rfl (Ae ?_)))))))))))))
       exact Au _ h (sm [] _ _ rfl rfl)
      ·have h := An c12 h
       refine Aq ?_
       exact Au _ h (sm [] _ _ rfl rfl)
     ·refine AO h (fun v14 => mk [(0, oD (.own 90000)), (1, iD v1.2.1), (2, iD v1.2.2.1), (3, iD v7.2), (4, oD (.clo (Bb (Co true Ai true Ai) Bi p4))), (10, bD v1.2.2.2.2.1), (11, bD v1.2.2.2.2.2), (12, iD ((wI .i64 (v1.2.2.1 - v1.2.1)))), (13, iD v11.2.1)] [(90000, .vec 3 (v14.map Ai))]) (fun j14 h => ?_) (fun v14 h => ?_)
      ·refine AO h (fun v15 => mk [(0, oD (.own 90000)), (1, iD v1.2.1), (2, iD v1.2.2.1), (3, iD v7.2), (4, oD (.clo (Bb (Co true Ai true Ai) Bi p4))), (10, bD v1.2.2.2.2.1), (11, bD v1.2.2.2.2.2), (12, iD ((wI .i64 (v1.2.2.1 - v1.2.1)))), (13, iD v11.2.1), (75, bD v15)] [(90000, .vec 3 (v11.1.map Ai))]) (fun j15 h => ?_) (fun v15 h => ?_)
       ·refine Aa Ac rfl (qm rfl (qm rfl ?_))
        refine AF (t := 69) rfl (fun c16 => ?_) (fun c16 => ?_)
        ·have h := Ao c16 h
         refine qm rfl (qp rfl (qm rfl ?_))
         refine AF (t := 72) rfl (fun c17 => ?_) (fun c17 => ?_)
         ·have h := Ao c17 h
          refine qm rfl (BK rfl (qp rfl (Ae ?_)))
          exact Au _ h (sm [] _ _ rfl rfl)
         ·have h := An c17 h
          refine qn rfl (qn rfl (qp rfl (Ae ?_)))
          exact Au _ h (sm [] _ _ rfl rfl)
        ·have h := An c16 h
         refine qn rfl (qp rfl (qm rfl (qn rfl (qn rfl (qp rfl (Ae ?_))))))
         exact Au _ h (sm [] _ _ rfl rfl)
       ·refine Ap rfl (fun c18 => ?_) (fun c18 => ?_)
        ·have h := Ao c18 h
         refine Ab (Aa Ac rfl (qm rfl (qm rfl (qm rfl (qm rfl ?_)))))
         obtain ⟨v19, a19, h⟩ := bind_some h
         refine BA (ds0 := [_, _, _, _]) [90000] [] [true] (FU N v11.1 v1.2.1 v1.2.2.1 p4 v19 a19) (.p rfl) ZB rfl ⟨rfl, rfl, rfl, rfl, tv⟩ rfl rfl (by decide) ⟨rfl, tv⟩ rfl (A3 rfl) tv ⟨(fun h => by cases h), tv⟩ rfl rfl rfl ?_
         refine Ae ?_
         refine Ap rfl (fun c20 => ?_) (fun c20 => ?_)
         ·have h := Ao c20 h
          obtain rfl := sj h
          refine AA ⟨_, (sm [] [] [(90000, .vec 3 (v19.2.map Ai))] rfl rfl), ?_⟩
          exact ⟨⟨[], tv, rfl⟩, ⟨rfl, tv⟩, tv⟩
         ·have h := An c20 h
          refine Aq ?_
          exact Au _ h (sm [] _ _ rfl rfl)
        ·have h := An c18 h
         refine Aq ?_
         exact Au _ h (sm [] _ _ rfl rfl)
      ·refine Ab ?_
       refine AO h (fun v21 => mk [(0, oD (.own 90000)), (1, iD v1.2.1), (2, iD v1.2.2.1), (3, iD v7.2), (4, oD (.clo (Bb (Co true Ai true Ai) Bi p4))), (10, bD v1.2.2.2.2.1), (11, bD v1.2.2.2.2.2), (12, iD ((wI .i64 (v1.2.2.1 - v1.2.1)))), (13, iD v11.2.1), (97, bD v21)] [(90000, .vec 3 (v14.map Ai))]) (fun j21 h => ?_) (fun v21 h => ?_)
       ·refine Aa Ac rfl (qm rfl (E2 rfl (qm rfl ?_)))
        refine AF (t := 83) rfl (fun c22 => ?_) (fun c22 => ?_)
        ·have h := Ao c22 h
         refine qm rfl (qm rfl (qm rfl (Bm rfl ?_)))
         obtain ⟨v23, a23, b23, h⟩ := Aj h
         refine qI AV Az a23 (Ag b23) rfl (qJ A7 Az (Ag b23) rfl (qm rfl (qm rfl ?_)))
         obtain ⟨v24, a24, b24, h⟩ := Aj h
         refine qI AV Az a24 (Ag b24) rfl (qJ A7 Az (Ag b24) rfl ?_)
         obtain ⟨v25, a25, h⟩ := bind_some h
         refine CF (ds0 := [_, _]) (ar := (Co true Ai true Ai) ((v23, v24))) (.g rfl rfl) rfl rfl ⟨rfl, rfl, tv⟩ rfl rfl rfl (CH (Dd _ _ _ _ BI BI) a25) ?_
         refine AX rfl (BW rfl (qp rfl (AB (by kernel_rfl) ?_)))
         exact Au _ h (sm [] _ _ rfl rfl)
        ·have h := An c22 h
         refine qn rfl (qn rfl (qn rfl (qn rfl (qn rfl (qn rfl (qn rfl (qn rfl (qn rfl (qn rfl (qn rfl (qn rfl (qn rfl (qp rfl (AB (by kernel_rfl) ?_))))))))))))))
         exact Au _ h (sm [] _ _ rfl rfl)
       ·refine Ap rfl (fun c26 => ?_) (fun c26 => ?_)
        ·have h := Ao c26 h
         refine Ab (Aa Ac rfl (qm rfl (qm rfl (qm rfl (qm rfl (qm rfl ?_))))))
         obtain ⟨v27, a27, h⟩ := bind_some h
         refine BA (ds0 := [_, _, _, _, _]) [90000] [] [true] (GQ N v14 v1.2.1 v1.2.2.1 v11.2.1 p4 v27 a27) (.p rfl) Z6 rfl ⟨rfl, rfl, rfl, rfl, rfl, tv⟩ rfl rfl (by decide) ⟨rfl, tv⟩ rfl (A3 rfl) tv ⟨(fun h => by cases h), tv⟩ rfl rfl rfl ?_
         refine qa rfl (Ae (Ab (Aa Ac rfl (qm rfl (qa rfl (Ae (AS ?_)))))))
         exact Au _ h (sm [] _ _ rfl rfl)
        ·have h := An c26 h
         refine Aq (Ab (Aa Ac rfl (qm rfl (qm rfl (qm rfl (qm rfl (qm rfl ?_)))))))
         obtain ⟨v28, a28, h⟩ := bind_some h
         refine BA (ds0 := [_, _, _, _, _]) [90000] [] [true] (HL N v14 v1.2.1 v1.2.2.1 v11.2.1 p4 v28 a28) (.p rfl) af rfl ⟨rfl, rfl, rfl, rfl, rfl, tv⟩ rfl rfl (by decide) ⟨rfl, tv⟩ rfl (A3 rfl) tv ⟨(fun h => by cases h), tv⟩ rfl rfl rfl ?_
         refine qm rfl (qx rfl (qx rfl (qa rfl (qa rfl (Ae (Ab (Aa Ac rfl (qm rfl (qa rfl (Ae (Ab (Aa Ac rfl (qm rfl (qm rfl (Bm rfl (qm rfl (qm rfl (Bm rfl (qa rfl (qa rfl (Ae (Ab (Aa Ac rfl (qm rfl (JA rfl (by decide) (qa rfl (Ae (Ab (Aa Ac rfl (qm rfl (qm rfl (AX rfl (Ae ?_)))))))))))))))))))))))))))))))))
         refine Ap rfl (fun c29 => ?_) (fun c29 => ?_)
         ·have h := Ao c29 h
          refine Ab (Aa Ac rfl (qm rfl (qm rfl (Cz rfl (qa rfl (Ae (Ab (Aa Ac rfl (qm rfl (qm rfl (qm rfl (qm rfl (qm rfl ?_)))))))))))))
          obtain ⟨v30, a30, h⟩ := bind_some h
          refine BA (ds0 := [_, _, _, _, _]) [90000] [] [true] (hrc v28.2.2 v1.2.1 v28.1 v7.2 p4 v30 a30) (.p rfl) V7 rfl ⟨rfl, rfl, rfl, rfl, rfl, tv⟩ rfl rfl (by decide) ⟨rfl, tv⟩ rfl (A3 rfl) tv ⟨(fun h => by cases h), tv⟩ rfl rfl rfl ?_
          refine Ae (Aa Ac rfl (qm rfl (AR rfl (qa rfl (Ae ?_)))))
          exact Au _ h (sm [] _ _ rfl rfl)
         ·have h := An c29 h
          refine Ab (Aa Ac rfl (qm rfl (qm rfl (Cz rfl (qa rfl (Ae (Ab (Aa Ac rfl (qm rfl (qm rfl (AR rfl (qm rfl (qm rfl (qm rfl ?_))))))))))))))
          obtain ⟨v31, a31, h⟩ := bind_some h
          refine BA (ds0 := [_, _, _, _, _]) [90000] [] [true] (hrc v28.2.2 ((wI .i64 (v28.1 + 1))) v1.2.2.1 v7.2 p4 v31 a31) (.p rfl) V7 rfl ⟨rfl, rfl, rfl, rfl, rfl, tv⟩ rfl rfl (by decide) ⟨rfl, tv⟩ rfl (A3 rfl) tv ⟨(fun h => by cases h), tv⟩ rfl rfl rfl ?_
          refine Ae (Aa Ac rfl (qm rfl (qa rfl (Ae ?_))))
          exact Au _ h (sm [] _ _ rfl rfl)
 ·cases h
theorem Fv (N : Nat) : ∀ (k : Nat) (p0 : List Af) (p1 : Int) (p2 : Int) (p3 : Int) (p4 : (Af × Af) → Option Int) (r : (List Af)), Gs.pdqsort_R N k p0 p1 p2 p3 p4 = some r → Bj Tryz.prog 118 [oD (.own 90000), iD p1, iD p2, iD p3, oD (.clo (Bb (Co true Ai true Ai) Bi p4))] [(.vec 3 (p0.map Ai), .vec 3 (r.map Ai))] [] (.tup [])
 | 0, _, _, _, _, _, _, h => by cases h
 | k + 1, p0, p1, p2, p3, p4, r, h => HM N (Gs.pdqsort_R N k) (Fv N k) p0 p1 p2 p3 p4 r h
theorem Id (N : Nat) (p0 : List Af) (p1 : Int) (p2 : Int) (p3 : Int) (p4 : (Af × Af) → Option Int) (r : (List Af)) (h : Gs.pdqsort N p0 p1 p2 p3 p4 = some r) : Bj Tryz.prog 118 [oD (.own 90000), iD p1, iD p2, iD p3, oD (.clo (Bb (Co true Ai true Ai) Bi p4))] [(.vec 3 (p0.map Ai), .vec 3 (r.map Ai))] [] (.tup []) := Fv N N p0 p1 p2 p3 p4 r h
theorem HO (N : Nat) (p0 : List Af) (p1 : (Af × Af) → Option Int) (r : (List Af)) (h : BU N p0 p1 = some r) : Bj Tryz.prog 86 [oD (.own 90000), oD (.clo (Bb (Co true Ai true Ai) Bi p1))] [(.vec 3 (p0.map Ai), .vec 3 (r.map Ai))] [] (.tup []) := by
 unfold BU at h
 refine A9 (n := 14) (rs := []) Tryz.func86 rfl rfl rfl (A6 rfl) (A6 rfl) rfl rfl (A6 rfl) rfl (A6 rfl) fun w0 S0 GL => JI ?_
 refine Am (sm [] [(0, oD (.own 90000)), (1, oD (.clo (Bb (Co true Ai true Ai) Bi p1)))] [(90000, .vec 3 (p0.map Ai))] rfl rfl) (Ab (Aa Ac rfl (qm rfl (EN AV rfl (qa rfl (Ae (Aa Ac rfl (qm rfl (qm rfl (qm rfl (GY Wr NE rfl ?_)))))))))))
 obtain ⟨v1, a1, h⟩ := bind_some h
 refine AJ [] (II N ((wI .u64 ((p0.length : Int)))) v1 a1) U9 rfl (qm rfl ?_)
 obtain ⟨v2, a2, h⟩ := bind_some h
 refine BA (ds0 := [_, _, _, _, _]) [90000] [] [true] (Id N p0 0 ((p0.length : Int)) v1 p1 v2 a2) (.p rfl) V7 rfl ⟨rfl, rfl, rfl, rfl, rfl, tv⟩ rfl rfl (by decide) ⟨rfl, tv⟩ rfl (A3 rfl) tv ⟨(fun h => by cases h), tv⟩ rfl rfl rfl ?_
 refine Ae ?_
 obtain rfl := sj h
 refine ⟨_, (sm [] [] [(90000, .vec 3 (v2.map Ai))] rfl rfl), ?_⟩
 exact ⟨⟨[], tv, rfl⟩, ⟨rfl, tv⟩, tv⟩
theorem KB (N : Nat) (p0 : Int) (r : Bool) (h : F2 N p0 = some r) : AD Tryz.prog 106 [iD p0] [] (bD r) := by
 unfold F2 at h
 refine Av (n := 6) (rs := [.tmp 2]) Tryz.func106 rfl rfl rfl (A6 rfl) (A6 rfl) rfl fun w0 S0 => ?_
 refine Ab (Aa Ac rfl (qa rfl (Ae (Ab (Aa Ac rfl (qm rfl (qm rfl (Cp rfl (qa rfl (Ae ?_))))))))))
 obtain rfl := sj h
 refine Am (sm [] [(2, bD ((p0 != p0)))] [] rfl rfl) (AA ?_)
 exact ⟨⟨[_], ⟨.tmp _ _ rfl, tv⟩, rfl⟩, tv⟩
theorem Gy (N : Nat) (p0 : Int) (p1 : Int) (r : Int) (h : Dy N p0 p1 = some r) : AD Tryz.prog 62 [iD p0, iD p1] [] (iD r) := by
 unfold Dy at h
 refine Av (n := 20) (rs := [.tmp 4]) Tryz.func62 rfl rfl rfl (A6 rfl) (A6 rfl) rfl fun w0 S0 => ?_
 refine Ab (Aa Ac rfl (qa rfl (Ae (Ab (Aa Ac rfl (qm rfl ?_))))))
 obtain ⟨v1, a1, h⟩ := bind_some h
 refine AJ [] (KB N p0 v1 a1) X0 rfl (qa rfl (Ae (Ab (Aa Ac rfl (qm rfl ?_)))))
 obtain ⟨v2, a2, h⟩ := bind_some h
 refine AJ [] (KB N p1 v2 a2) X0 rfl (qa rfl (Ae (Ab (Ab (Aa Ac rfl (qm rfl (Ae ?_)))))))
 refine Ap rfl (fun c3 => ?_) (fun c3 => ?_)
 ·have h := Ao c3 h
  refine Ab (Ab (Aa Ac rfl (qm rfl (Ae ?_))))
  refine Ap rfl (fun c4 => ?_) (fun c4 => ?_)
  ·have h := Ao c4 h
   refine Ab (Aa Ac rfl (qa rfl (Ae ?_)))
   obtain rfl := sj h
   refine Am (sm [] [(4, iD 0)] [] rfl rfl) (AA ?_)
   exact ⟨⟨[_], ⟨.tmp _ _ rfl, tv⟩, rfl⟩, tv⟩
  ·have h := An c4 h
   refine Aq (Ab (Aa Ac rfl (qa rfl (Ae ?_))))
   obtain rfl := sj h
   refine Am (sm [] [(4, iD ((-1)))] [] rfl rfl) (AA ?_)
   exact ⟨⟨[_], ⟨.tmp _ _ rfl, tv⟩, rfl⟩, tv⟩
 ·have h := An c3 h
  refine Aq (Ab (Ab (Aa Ac rfl (qm rfl (Ae ?_)))))
  refine Ap rfl (fun c5 => ?_) (fun c5 => ?_)
  ·have h := Ao c5 h
   refine Ab (Aa Ac rfl (qa rfl (Ae ?_)))
   obtain rfl := sj h
   refine Am (sm [] [(4, iD 1)] [] rfl rfl) (AA ?_)
   exact ⟨⟨[_], ⟨.tmp _ _ rfl, tv⟩, rfl⟩, tv⟩
  ·have h := An c5 h
   refine Aq (Ab (Ab (Aa Ac rfl (qm rfl (qm rfl (AX rfl (Ae ?_)))))))
   refine Ap rfl (fun c6 => ?_) (fun c6 => ?_)
   ·have h := Ao c6 h
    refine Ab (Aa Ac rfl (qa rfl (Ae ?_)))
    obtain rfl := sj h
    refine Am (sm [] [(4, iD ((-1)))] [] rfl rfl) (AA ?_)
    exact ⟨⟨[_], ⟨.tmp _ _ rfl, tv⟩, rfl⟩, tv⟩
   ·have h := An c6 h
    refine Aq (Ab (Ab (Aa Ac rfl (qm rfl (qm rfl (E2 rfl (Ae ?_)))))))
    refine Ap rfl (fun c7 => ?_) (fun c7 => ?_)
    ·have h := Ao c7 h
     refine Ab (Aa Ac rfl (qa rfl (Ae ?_)))
     obtain rfl := sj h
     refine Am (sm [] [(4, iD 1)] [] rfl rfl) (AA ?_)
     exact ⟨⟨[_], ⟨.tmp _ _ rfl, tv⟩, rfl⟩, tv⟩
    ·have h := An c7 h
     refine Aq (Ab (Aa Ac rfl (qa rfl (Ae ?_))))
     obtain rfl := sj h
     refine Am (sm [] [(4, iD 0)] [] rfl rfl) (AA ?_)
     exact ⟨⟨[_], ⟨.tmp _ _ rfl, tv⟩, rfl⟩, tv⟩
theorem Hn (N : Nat) (p0 : List Int) (p1 : List Int) (r : Int) (h : C7 N p0 p1 = some r) : AD Tryz.prog 92 [pD (.sl (p0.map Ak)), pD (.sl (p1.map Ak))] [] (iD r) := by
 unfold C7 at h
 refine Av (n := 36) (rs := [.tmp 4]) Tryz.func92 rfl rfl rfl (A6 rfl) (A6 rfl) rfl fun w0 S0 => ?_
 refine Ab (Aa Ac rfl (qa rfl (Ae (Ab (Ab (Aa Ac rfl (qm rfl (A1 AL rfl (qm rfl (Ae ?_))))))))))
 refine AE (L := CA N p0 p1) h (fun v1 => mk [(0, pD (.sl (p0.map Ak))), (1, pD (.sl (p1.map Ak))), (9, pD (.sl (p0.map Ak))), (10, iD ((p0.length : Int))), (11, iD v1)] []) (fun v2 => mk [(0, pD (.sl (p0.map Ak))), (1, pD (.sl (p1.map Ak)))] []) (fun _ _ => rfl) (sm [] _ _ rfl rfl) (fun j1 n1 v1 h => ?_) (fun v2 s h hs => ?_)
 ·unfold CA at h
  refine Ab (Aa Ac rfl (AX rfl (Ae (Ab ?_))))
  refine Ap rfl (fun c3 => ?_) (fun c3 => ?_)
  ·have h := Ao c3 h
   refine Aq (Ab (AK (Ab (Aa Ac rfl (qm rfl ?_)))))
   obtain ⟨v4, a4, b4, h⟩ := Aj h
   refine qi AL Du a4 (Ag b4) rfl (qk Cm rfl (qa rfl (qa rfl (Ae (Ab (Ab (Aa Ac rfl (qm rfl (qm rfl (A1 AL rfl (Cz rfl (Ae ?_))))))))))))
   refine Ap rfl (fun c5 => ?_) (fun c5 => ?_)
   ·have h := Ao c5 h
    refine Ab (Aa Ac rfl (qa rfl (Ae ?_)))
    obtain rfl := sj h
    refine Am (sm [] [(4, iD 1)] [] rfl rfl) (AA ?_)
    exact ⟨⟨[_], ⟨.tmp _ _ rfl, tv⟩, rfl⟩, tv⟩
   ·have h := An c5 h
    refine Aq (Ab (Aa Ac rfl (qm rfl (qm rfl ?_))))
    obtain ⟨v6, a6, b6, h⟩ := Aj h
    refine qi AL Du a6 (Ag b6) rfl (qk Cm rfl (qa rfl (Ae (Ab (Aa Ac rfl (qm rfl (qm rfl ?_)))))))
    obtain ⟨v7, a7, h⟩ := bind_some h
    refine AJ [] (Gy N v4 v6 v7 a7) Xk rfl (qa rfl (Ae (Ab (Aa Ac rfl (qm rfl (Cp rfl (Ae ?_)))))))
    refine Ap rfl (fun c8 => ?_) (fun c8 => ?_)
    ·have h := Ao c8 h
     refine Ab (Aa Ac rfl (qm rfl (qa rfl (Ae ?_))))
     obtain rfl := sj h
     refine Am (sm [] [(4, iD v7)] [] rfl rfl) (AA ?_)
     exact ⟨⟨[_], ⟨.tmp _ _ rfl, tv⟩, rfl⟩, tv⟩
    ·have h := An c8 h
     refine Aq (Aa Ac rfl (AR rfl (qm rfl (Ae ?_))))
     exact Au _ h (sm [] _ _ rfl rfl)
  ·have h := An c3 h
   refine AS ?_
   exact Au _ h (sm [] _ _ rfl rfl)
 ·refine Am hs (Ab (Ab (Aa Ac rfl (qm rfl (A1 AL rfl (qm rfl (A1 AL rfl (AX rfl (Ae ?_)))))))))
  refine Ap rfl (fun c9 => ?_) (fun c9 => ?_)
  ·have h := Ao c9 h
   refine Ab (Aa Ac rfl (qa rfl (Ae ?_)))
   obtain rfl := sj h
   refine Am (sm [] [(4, iD ((-1)))] [] rfl rfl) (AA ?_)
   exact ⟨⟨[_], ⟨.tmp _ _ rfl, tv⟩, rfl⟩, tv⟩
  ·have h := An c9 h
   refine Aq (Ab (Aa Ac rfl (qa rfl (Ae ?_))))
   obtain rfl := sj h
   refine Am (sm [] [(4, iD 0)] [] rfl rfl) (AA ?_)
   exact ⟨⟨[_], ⟨.tmp _ _ rfl, tv⟩, rfl⟩, tv⟩
theorem IR (N : Nat) (p0 : Int) (r : Bool) (h : EX N p0 = some r) : AD Tryz.prog 155 [pD (.val (.int .u8 p0))] [] (bD r) := by
 unfold EX at h
 refine Av (n := 6) (rs := [.tmp 2]) Tryz.func155 rfl rfl rfl (A6 rfl) (A6 rfl) rfl fun w0 S0 => ?_
 refine Ab (Aa Ac rfl (qa rfl (Ae (Ab (Aa Ac rfl (qm rfl (qm rfl (Cp rfl (qa rfl (Ae ?_))))))))))
 obtain rfl := sj h
 refine Am (sm [] [(2, bD ((p0 != p0)))] [] rfl rfl) (AA ?_)
 exact ⟨⟨[_], ⟨.tmp _ _ rfl, tv⟩, rfl⟩, tv⟩
theorem KJ (N : Nat) (p0 : Int) (p1 : Int) (r : Int) (h : Ej N p0 p1 = some r) : AD Tryz.prog 121 [pD (.val (.int .u8 p0)), pD (.val (.int .u8 p1))] [] (iD r) := by
 unfold Ej at h
 refine Av (n := 20) (rs := [.tmp 4]) Tryz.func121 rfl rfl rfl (A6 rfl) (A6 rfl) rfl fun w0 S0 => ?_
 refine Ab (Aa Ac rfl (qa rfl (Ae (Ab (Aa Ac rfl (qm rfl ?_))))))
 obtain ⟨v1, a1, h⟩ := bind_some h
 refine AJ [] (IR N p0 v1 a1) X1 rfl (qa rfl (Ae (Ab (Aa Ac rfl (qm rfl ?_)))))
 obtain ⟨v2, a2, h⟩ := bind_some h
 refine AJ [] (IR N p1 v2 a2) X1 rfl (qa rfl (Ae (Ab (Ab (Aa Ac rfl (qm rfl (Ae ?_)))))))
 refine Ap rfl (fun c3 => ?_) (fun c3 => ?_)
 ·have h := Ao c3 h
  refine Ab (Ab (Aa Ac rfl (qm rfl (Ae ?_))))
  refine Ap rfl (fun c4 => ?_) (fun c4 => ?_)
  ·have h := Ao c4 h
   refine Ab (Aa Ac rfl (qa rfl (Ae ?_)))
   obtain rfl := sj h
   refine Am (sm [] [(4, iD 0)] [] rfl rfl) (AA ?_)
   exact ⟨⟨[_], ⟨.tmp _ _ rfl, tv⟩, rfl⟩, tv⟩
  ·have h := An c4 h
   refine Aq (Ab (Aa Ac rfl (qa rfl (Ae ?_))))
   obtain rfl := sj h
   refine Am (sm [] [(4, iD ((-1)))] [] rfl rfl) (AA ?_)
   exact ⟨⟨[_], ⟨.tmp _ _ rfl, tv⟩, rfl⟩, tv⟩
 ·have h := An c3 h
  refine Aq (Ab (Ab (Aa Ac rfl (qm rfl (Ae ?_)))))
  refine Ap rfl (fun c5 => ?_) (fun c5 => ?_)
  ·have h := Ao c5 h
   refine Ab (Aa Ac rfl (qa rfl (Ae ?_)))
   obtain rfl := sj h
   refine Am (sm [] [(4, iD 1)] [] rfl rfl) (AA ?_)
   exact ⟨⟨[_], ⟨.tmp _ _ rfl, tv⟩, rfl⟩, tv⟩
  ·have h := An c5 h
   refine Aq (Ab (Ab (Aa Ac rfl (qm rfl (qm rfl (AX rfl (Ae ?_)))))))
   refine Ap rfl (fun c6 => ?_) (fun c6 => ?_)
   ·have h := Ao c6 h
    refine Ab (Aa Ac rfl (qa rfl (Ae ?_)))
    obtain rfl := sj h
    refine Am (sm [] [(4, iD ((-1)))] [] rfl rfl) (AA ?_)
    exact ⟨⟨[_], ⟨.tmp _ _ rfl, tv⟩, rfl⟩, tv⟩
   ·have h := An c6 h
    refine Aq (Ab (Ab (Aa Ac rfl (qm rfl (qm rfl (E2 rfl (Ae ?_)))))))
    refine Ap rfl (fun c7 => ?_) (fun c7 => ?_)
    ·have h := Ao c7 h
     refine Ab (Aa Ac rfl (qa rfl (Ae ?_)))
     obtain rfl := sj h
     refine Am (sm [] [(4, iD 1)] [] rfl rfl) (AA ?_)
     exact ⟨⟨[_], ⟨.tmp _ _ rfl, tv⟩, rfl⟩, tv⟩
    ·have h := An c7 h
     refine Aq (Ab (Aa Ac rfl (qa rfl (Ae ?_))))
     obtain rfl := sj h
     refine Am (sm [] [(4, iD 0)] [] rfl rfl) (AA ?_)
     exact ⟨⟨[_], ⟨.tmp _ _ rfl, tv⟩, rfl⟩, tv⟩
theorem HX (N : Nat) (p0 : List Int) (p1 : List Int) (r : Int) (h : Cx N p0 p1 = some r) : AD Tryz.prog 93 [pD (.sl (p0.map Bn)), pD (.sl (p1.map Bn))] [] (iD r) := by
 unfold Cx at h
 refine Av (n := 36) (rs := [.tmp 4]) Tryz.func93 rfl rfl rfl (A6 rfl) (A6 rfl) rfl fun w0 S0 => ?_
 refine Ab (Aa Ac rfl (qa rfl (Ae (Ab (Ab (Aa Ac rfl (qm rfl (A1 Dr rfl (qm rfl (Ae ?_))))))))))
 refine AE (L := BJ N p0 p1) h (fun v1 => mk [(0, pD (.sl (p0.map Bn))), (1, pD (.sl (p1.map Bn))), (9, pD (.sl (p0.map Bn))), (10, iD ((p0.length : Int))), (11, iD v1)] []) (fun v2 => mk [(0, pD (.sl (p0.map Bn))), (1, pD (.sl (p1.map Bn)))] []) (fun _ _ => rfl) (sm [] _ _ rfl rfl) (fun j1 n1 v1 h => ?_) (fun v2 s h hs => ?_)
 ·unfold BJ at h
  refine Ab (Aa Ac rfl (AX rfl (Ae (Ab ?_))))
  refine Ap rfl (fun c3 => ?_) (fun c3 => ?_)
  ·have h := Ao c3 h
   refine Aq (Ab (AK (Ab (Aa Ac rfl (qm rfl ?_)))))
   obtain ⟨v4, a4, b4, h⟩ := Aj h
   refine qi Dr F5 a4 (Ag b4) rfl (qk Ky rfl (qa rfl (qa rfl (Ae (Ab (Ab (Aa Ac rfl (qm rfl (qm rfl (A1 Dr rfl (Cz rfl (Ae ?_))))))))))))
   refine Ap rfl (fun c5 => ?_) (fun c5 => ?_)
   ·have h := Ao c5 h
    refine Ab (Aa Ac rfl (qa rfl (Ae ?_)))
    obtain rfl := sj h
    refine Am (sm [] [(4, iD 1)] [] rfl rfl) (AA ?_)
    exact ⟨⟨[_], ⟨.tmp _ _ rfl, tv⟩, rfl⟩, tv⟩
   ·have h := An c5 h
    refine Aq (Ab (Aa Ac rfl (qm rfl (qm rfl ?_))))
    obtain ⟨v6, a6, b6, h⟩ := Aj h
    refine qi Dr F5 a6 (Ag b6) rfl (qk Ky rfl (qa rfl (Ae (Ab (Aa Ac rfl (qm rfl (qm rfl ?_)))))))
    obtain ⟨v7, a7, h⟩ := bind_some h
    refine AJ [] (KJ N v4 v6 v7 a7) Zv rfl (qa rfl (Ae (Ab (Aa Ac rfl (qm rfl (Cp rfl (Ae ?_)))))))
    refine Ap rfl (fun c8 => ?_) (fun c8 => ?_)
    ·have h := Ao c8 h
     refine Ab (Aa Ac rfl (qm rfl (qa rfl (Ae ?_))))
     obtain rfl := sj h
     refine Am (sm [] [(4, iD v7)] [] rfl rfl) (AA ?_)
     exact ⟨⟨[_], ⟨.tmp _ _ rfl, tv⟩, rfl⟩, tv⟩
    ·have h := An c8 h
     refine Aq (Aa Ac rfl (AR rfl (qm rfl (Ae ?_))))
     exact Au _ h (sm [] _ _ rfl rfl)
  ·have h := An c3 h
   refine AS ?_
   exact Au _ h (sm [] _ _ rfl rfl)
 ·refine Am hs (Ab (Ab (Aa Ac rfl (qm rfl (A1 Dr rfl (qm rfl (A1 Dr rfl (AX rfl (Ae ?_)))))))))
  refine Ap rfl (fun c9 => ?_) (fun c9 => ?_)
  ·have h := Ao c9 h
   refine Ab (Aa Ac rfl (qa rfl (Ae ?_)))
   obtain rfl := sj h
   refine Am (sm [] [(4, iD ((-1)))] [] rfl rfl) (AA ?_)
   exact ⟨⟨[_], ⟨.tmp _ _ rfl, tv⟩, rfl⟩, tv⟩
  ·have h := An c9 h
   refine Aq (Ab (Aa Ac rfl (qa rfl (Ae ?_))))
   obtain rfl := sj h
   refine Am (sm [] [(4, iD 0)] [] rfl rfl) (AA ?_)
   exact ⟨⟨[_], ⟨.tmp _ _ rfl, tv⟩, rfl⟩, tv⟩
theorem MA (N : Nat) (p0 : List Int) (r : Int) (h : Gm N p0 = some r) : AD Tryz.prog 61 [pD (.sl (p0.map Ak))] [] (iD r) := by
 unfold Gm at h
 refine Av (n := 18) (rs := [.tmp 2]) Tryz.func61 rfl rfl rfl (A6 rfl) (A6 rfl) rfl fun w0 S0 => ?_
 refine Ab (Aa Ac rfl (qa rfl (Ae (Ab (Aa Ac rfl (qa rfl (Ae (Ab (Ab (Aa Ac rfl (qm rfl (A1 AL rfl (qm rfl (Ae ?_))))))))))))))
 refine AE (L := Fg N p0) h (fun v1 => mk [(3, iD 0), (6, pD (.sl (p0.map Ak))), (7, iD ((p0.length : Int))), (8, iD v1)] []) (fun v2 => mk [(3, iD 0)] []) (fun _ _ => rfl) (sm [] _ _ rfl rfl) (fun j1 n1 v1 h => ?_) (fun v2 s h hs => ?_)
 ·unfold Fg at h
  refine Ab (Aa Ac rfl (AX rfl (Ae (Ab ?_))))
  refine Ap rfl (fun c3 => ?_) (fun c3 => ?_)
  ·have h := Ao c3 h
   refine Aq (Ab (AK (Ab (Aa Ac rfl ?_))))
   obtain ⟨v4, a4, b4, h⟩ := Aj h
   refine qi AL Du a4 (Ag b4) rfl (qk Cm rfl (qa rfl (Ae (Ab (Aa Ac rfl (qm rfl (qm rfl (Cp rfl (Ae ?_)))))))))
   refine Ap rfl (fun c5 => ?_) (fun c5 => ?_)
   ·have h := Ao c5 h
    refine Ab (Aa Ac rfl (qm rfl (qa rfl (Ae ?_))))
    obtain rfl := sj h
    refine Am (sm [] [(2, iD v4)] [] rfl rfl) (AA ?_)
    exact ⟨⟨[_], ⟨.tmp _ _ rfl, tv⟩, rfl⟩, tv⟩
   ·have h := An c5 h
    refine Aq (Aa Ac rfl (AR rfl (qm rfl (Ae ?_))))
    exact Au _ h (sm [] _ _ rfl rfl)
  ·have h := An c3 h
   refine AS ?_
   exact Au _ h (sm [] _ _ rfl rfl)
 ·refine Am hs (Ab (Aa Ac rfl (qm rfl (qa rfl (Ae ?_)))))
  obtain rfl := sj h
  refine Am (sm [] [(2, iD 0)] [] rfl rfl) (AA ?_)
  exact ⟨⟨[_], ⟨.tmp _ _ rfl, tv⟩, rfl⟩, tv⟩
theorem JR (N : Nat) (p0 : Af) (p1 : Af) (r : Int) (h : BR N p0 p1 = some r) : AD Tryz.prog 46 [.e (.agg [sC (p0.fd.map Ak), sC (p0.fa.map Ak), sC (p0.fe.map Bn)]), .e (.agg [sC (p1.fd.map Ak), sC (p1.fa.map Ak), sC (p1.fe.map Bn)])] [] (iD r) := by
 unfold BR at h
 refine Av (n := 22) (rs := [.tmp 4]) Tryz.func46 rfl rfl rfl (A6 rfl) (A6 rfl) rfl fun w0 S0 => ?_
 refine Ab (Aa Ac rfl (qb rfl (qb rfl (qa rfl (Ae (Ab (Aa Ac rfl (qf CO rfl (ql Bo rfl (qf CO rfl (ql Bo rfl ?_)))))))))))
 obtain ⟨v1, a1, h⟩ := bind_some h
 refine AJ [] (Hn N p0.fd p1.fd v1 a1) aI rfl (qf BH rfl (ql Bo rfl (qf BH rfl (ql Bo rfl ?_))))
 obtain ⟨v2, a2, h⟩ := bind_some h
 refine AJ [] (Hn N p0.fa p1.fa v2 a2) aI rfl (qf CU rfl (ql Hb rfl (qf CU rfl (ql Hb rfl ?_))))
 obtain ⟨v3, a3, h⟩ := bind_some h
 refine AJ [] (HX N p0.fe p1.fe v3 a3) bv rfl (DY AL Du KI rfl ?_)
 obtain ⟨v4, a4, h⟩ := bind_some h
 refine Dj [] [20] (MA N (([v1, v2, v3] : List Int)) v4 a4) Zx B4 rfl (qa rfl (AB (by kernel_rfl) ?_))
 obtain rfl := sj h
 refine Am (sm [] [(4, iD v4)] [] rfl rfl) (AA ?_)
 exact ⟨⟨[_], ⟨.tmp _ _ rfl, tv⟩, rfl⟩, tv⟩
theorem OP (N : Nat) (p0 : Ah) (r : (List Af) × Int) (h : E4 N p0 = some r) : AD Tryz.prog 40 [.e (.agg [sC (p0.fb.map Ak), sC (p0.ff.map Ak), sC (p0.fh.map Ak), sC (p0.fc.map Ar)])] [(3, r.1.map Ai)] (.tup [.one (.own 0), .one (iC r.2)]) := by
 unfold E4 at h
 refine Av (n := 73) (rs := [.tmp 2, .tmp 3]) Tryz.func40 rfl rfl rfl (A6 rfl) (A6 rfl) rfl fun w0 S0 => ?_
 refine Ab (Aa Ac rfl (qb rfl (qa rfl (qa rfl (Ae (Ab (Aa Ac rfl (qL DL Di rfl ?_))))))))
 obtain ⟨v1, a1, h⟩ := bind_some h
 refine AJ [2001, 2002, 2003] (Pg N p0 v1 a1) bE rfl (qm rfl (qx rfl (qx rfl (qx rfl (qz Cw rfl (qs Az rfl (qa rfl (qa rfl (Ae (Ab ?_))))))))))
 refine AO h (fun v2 => mk [(1, oD (.ptr 1 0)), (4, oD (.ptr 4 0)), (6, iD v1.2.2), (25, bD v2)] [(1, .box [sC (p0.fb.map Ak), sC (p0.ff.map Ak), sC (p0.fh.map Ak), sC (p0.fc.map Ar)]), (4, .box [.own 2004, .own 2005, .own 2006]), (2004, .vec 1 (v1.1.fd.map Ak)), (2005, .vec 1 (v1.1.fa.map Ak)), (2006, .vec 1 (v1.1.fe.map Bn))]) (fun j2 h => ?_) (fun v2 h => ?_)
 ·refine Aa Ac rfl (qm rfl (Cp rfl (qm rfl ?_)))
  refine AF (t := 22) rfl (fun c3 => ?_) (fun c3 => ?_)
  ·have h := Ao c3 h
   refine qn rfl (qn rfl (qp rfl (Ae ?_)))
   exact Au _ h (sm [(2004, 2001), (2005, 2002), (2006, 2003)] _ _ rfl rfl)
  ·have h := An c3 h
   refine qm rfl (BW rfl (qp rfl (Ae ?_)))
   exact Au _ h (sm [(2004, 2001), (2005, 2002), (2006, 2003)] _ _ rfl rfl)
 ·refine Ap rfl (fun c4 => ?_) (fun c4 => ?_)
  ·have h := Ao c4 h
   refine Ab (Aa Ac rfl (qm rfl (qa rfl (qa rfl (Ae ?_)))))
   obtain rfl := sj h
   refine Am ((Bu 2 2007 3 rfl rfl rfl).trans (sm [(1000, 2007)] [(2, oD (.own 1000)), (3, iD v1.2.2)] [(1000, .vec 3 ((([] : List Af)).map Ai))] rfl rfl)) (AA ?_)
   exact ⟨⟨[_, _], ⟨.tmp _ _ rfl, ⟨.tmp _ _ rfl, tv⟩⟩, rfl⟩, ⟨rfl, tv⟩⟩
  ·have h := An c4 h
   refine Aq (Ab (Aa Ac rfl (qL A7 Az rfl (DT (Bk 2004 _ _ rfl rfl) (DT (Bk 2005 _ _ rfl rfl) (DT (Bk 2006 _ _ rfl rfl) (DY AV Az Cw rfl (qa rfl (Ae (Ab (Aa Ac rfl ?_)))))))))))
   refine Ug (.p rfl) rfl ?_
   refine qL A7 Az rfl ?_
   obtain ⟨v5, a5, h⟩ := bind_some h
   refine AJ [] (Lg N v1.1 v5 a5) Yy rfl ?_
   refine Rv (kv := Value.string) (vt := tB) (m := ([] : List (ByteArray × Bool))) (k := v5) (v := true) rfl (.inr rfl) rfl rfl rfl rfl (MP QC Yd) rfl ?_
   refine qm rfl (qa rfl (Ae (Ab (Ab (Aa Ac rfl (qa rfl (Ae ?_)))))))
   refine AE (L := D0 N p0) h (fun v6 => mk [(1, oD (.ptr 1 0)), (7, oD (.own 2008)), (8, oD (.mref 2009)), (9, iD v6.2.2)] [(1, .box [sC (p0.fb.map Ak), sC (p0.ff.map Ak), sC (p0.fh.map Ak), sC (p0.fc.map Ar)]), (2008, .vec 3 (v6.1.map Ai)), (2009, .mp (J0 Value.string tB v6.2.1))]) (fun v7 => mk [(7, oD (.own 2010))] [(2010, .vec 3 (v7.map Ai))]) (fun _ _ => rfl) (sm [(2008, 28), (2009, 29)] _ _ rfl rfl) (fun j6 n6 v6 h => ?_) (fun v7 s h hs => ?_)
   ·unfold D0 at h
    refine Ab (Ab (Aa Ac rfl (qm rfl (qm rfl (EN AV rfl (AX rfl (Ae ?_)))))))
    refine Ap rfl (fun c8 => ?_) (fun c8 => ?_)
    ·have h := Ao c8 h
     refine Aq (Ab (AK (Ab (Aa Ac rfl (qL DL Di rfl (qm rfl (qm rfl ?_)))))))
     obtain ⟨v9, a9, b9, h⟩ := Aj h
     refine qI AV Az a9 (Ag b9) rfl (qJ A7 Az (Ag b9) rfl ?_)
     obtain ⟨v10, a10, h⟩ := bind_some h
     refine AJ [2011, 2012] (Qj N p0 v9 v10 a10) aX rfl (qm rfl (qx rfl (qx rfl (qa rfl (qa rfl (AB (by kernel_rfl) (Ab (Ab (Aa Ac rfl (qm rfl (EN AV rfl (qm rfl (Ae ?_)))))))))))))
     refine AE (L := En N v10) h (fun v11 => mk [(1, oD (.ptr 1 0)), (7, oD (.own 2013)), (8, oD (.mref 2014)), (9, iD v6.2.2), (48, oD (.own 2015)), (49, iD ((v10.2.length : Int))), (50, iD v11.2.2)] [(1, .box [sC (p0.fb.map Ak), sC (p0.ff.map Ak), sC (p0.fh.map Ak), sC (p0.fc.map Ar)]), (2013, .vec 3 (v11.1.map Ai)), (2014, .mp (J0 Value.string tB v11.2.1)), (2015, .vec 3 (v10.2.map Ai))]) (fun v12 => mk [(1, oD (.ptr 1 0)), (7, oD (.own 2016)), (8, oD (.mref 2017)), (9, iD v6.2.2)] [(1, .box [sC (p0.fb.map Ak), sC (p0.ff.map Ak), sC (p0.fh.map Ak), sC (p0.fc.map Ar)]), (2016, .vec 3 (v12.1.map Ai)), (2017, .mp (J0 Value.string tB v12.2))]) (fun _ _ => rfl) (sm [(2013, 2008), (2014, 2009), (2015, 2012)] _ _ rfl rfl) (fun j11 n11 v11 h => ?_) (fun v12 s h hs => ?_)
     ·unfold En at h
      refine Ab (Aa Ac rfl (AX rfl (Ae (Ab ?_))))
      refine Ap rfl (fun c13 => ?_) (fun c13 => ?_)
      ·have h := Ao c13 h
       refine Aq ?_
       refine AO h (fun v14 => mk [(1, oD (.ptr 1 0)), (7, oD (.own 2018)), (8, oD (.mref 2019)), (9, iD v6.2.2), (48, oD (.own 2020)), (49, iD ((v10.2.length : Int))), (50, iD v11.2.2)] [(1, .box [sC (p0.fb.map Ak), sC (p0.ff.map Ak), sC (p0.fh.map Ak), sC (p0.fc.map Ar)]), (2018, .vec 3 (v14.1.map Ai)), (2019, .mp (J0 Value.string tB v14.2)), (2020, .vec 3 (v10.2.map Ai))]) (fun j14 h => ?_) (fun v14 h => ?_)
       ·refine AK (Ab (Aa Ac rfl ?_))
        obtain ⟨v15, a15, b15, h⟩ := Aj h
        refine qI AV Az a15 (Ag b15) rfl (qJ A7 Az (Ag b15) rfl (qz Cw rfl (qs Az rfl (Ae (Ab (Aa Ac rfl (qm rfl (qL A7 Az rfl ?_))))))))
        obtain ⟨v16, a16, h⟩ := bind_some h
        refine AJ [] (Lg N v15 v16 a16) Yy rfl ?_
        refine UT (kv := Value.string) (vt := tB) (m := v11.2.1) (dv := false) (.p rfl) rfl rfl rfl (MP QC Yd) (by rw [QC]; rfl) W7 rfl rfl rfl ?_
        refine BW rfl (Ae ?_)
        refine Ap rfl (fun c17 => ?_) (fun c17 => ?_)
        ·have h := Ao c17 h
         refine Ab (Aa Ac rfl (qm rfl (qL A7 Az rfl ?_)))
         obtain ⟨v18, a18, h⟩ := bind_some h
         refine AJ [] (Lg N v15 v18 a18) Yy rfl ?_
         refine Rv (kv := Value.string) (vt := tB) (m := v11.2.1) (k := v18) (v := true) rfl (.inl rfl) rfl rfl rfl rfl (MP QC Yd) rfl ?_
         refine Ae (Aa Ac rfl (qm rfl (qL A7 Az rfl (DY AV Az Cw rfl ?_))))
         obtain ⟨c19, h⟩ := AU h
         refine DO (f := Ai) AV AV Az Ng Cw c19 rfl (qa rfl (Ae ?_))
         exact Au _ h (sm [(2018, 65), (2019, 2014), (2020, 2015)] _ _ rfl rfl)
        ·have h := An c17 h
         refine Aq ?_
         exact Au _ h (sm [(2018, 2013), (2019, 2014), (2020, 2015)] _ _ rfl rfl)
       ·refine Aa Ac rfl (AR rfl (qm rfl (Ae ?_)))
        exact Au _ h (sm [(2013, 2018), (2014, 2019), (2015, 2020)] _ _ rfl rfl)
      ·have h := An c13 h
       refine AS ?_
       exact Au _ h (sm [(2016, 2013), (2017, 2014)] _ _ rfl rfl)
     ·refine Am hs (Ab (Aa Ac rfl (qm rfl (EN AV rfl (E2 rfl (Ae ?_))))))
      refine Ap rfl (fun c20 => ?_) (fun c20 => ?_)
      ·have h := Ao c20 h
       refine Ab (Aa Ac rfl (qa rfl (qa rfl (Ae ?_))))
       obtain rfl := sj h
       refine Am ((Bu 2 2021 3 rfl rfl rfl).trans (sm [(1000, 2021)] [(2, oD (.own 1000)), (3, iD 3)] [(1000, .vec 3 ((([] : List Af)).map Ai))] rfl rfl)) (AA ?_)
       exact ⟨⟨[_, _], ⟨.tmp _ _ rfl, ⟨.tmp _ _ rfl, tv⟩⟩, rfl⟩, ⟨rfl, tv⟩⟩
      ·have h := An c20 h
       refine Aq (Aa Ac rfl (qm rfl (AR rfl (qa rfl (Ae ?_)))))
       exact Au _ h (sm [(2008, 2016), (2009, 2017)] _ _ rfl rfl)
    ·have h := An c8 h
     refine AS ?_
     exact Au _ h (sm [(2010, 2008)] _ _ rfl rfl)
   ·refine Am hs (Ab (Aa Ac rfl (qm rfl ?_)))
    obtain ⟨v21, a21, h⟩ := bind_some h
    refine BA (ds0 := [_, _]) [2010] [] [true] (Bj.weak (ds' := [_, oD (.fnc 46)]) (HO N v7 ((fun (x : Af × Af) => BR N x.1 x.2)) v21 a21) ⟨(fun _ _ _ hh => hh), (fun _ _ _ hh => R8 YL (fun ar t ht => by obtain ⟨x, r, rfl, hq, rfl⟩ := Ij ht; exact JR N x.1 x.2 r hq) hh), tv⟩) (.p rfl) aW rfl ⟨rfl, rfl, tv⟩ rfl rfl (by decide) ⟨rfl, tv⟩ rfl (A3 rfl) tv ⟨(fun h => by cases h), tv⟩ rfl rfl rfl ?_
    refine Ae (Ab (Aa Ac rfl (qm rfl (qa rfl (qa rfl (Ae ?_))))))
    obtain rfl := sj h
    refine Am (sm [(1000, 2010)] [(2, oD (.own 1000)), (3, iD 0)] [(1000, .vec 3 (v21.map Ai))] rfl rfl) (AA ?_)
    exact ⟨⟨[_, _], ⟨.tmp _ _ rfl, ⟨.tmp _ _ rfl, tv⟩⟩, rfl⟩, ⟨rfl, tv⟩⟩
theorem Kk (N : Nat) (p0 : List Int) (p1 : List Int) (r : Bool) (h : Ea N p0 p1 = some r) : AD Tryz.prog 87 [pD (.sl (p0.map Ak)), pD (.sl (p1.map Ak))] [] (bD r) := by
 unfold Ea at h
 refine Av (n := 26) (rs := [.tmp 4]) Tryz.func87 rfl rfl rfl (A6 rfl) (A6 rfl) rfl fun w0 S0 => ?_
 refine Ab (Aa Ac rfl (qa rfl (Ae (Ab (Ab (Aa Ac rfl (qm rfl (A1 AL rfl (qm rfl (A1 AL rfl (Cp rfl (Ae ?_))))))))))))
 refine Ap rfl (fun c1 => ?_) (fun c1 => ?_)
 ·have h := Ao c1 h
  refine Ab (Aa Ac rfl (qa rfl (Ae ?_)))
  obtain rfl := sj h
  refine Am (sm [] [(4, bD false)] [] rfl rfl) (AA ?_)
  exact ⟨⟨[_], ⟨.tmp _ _ rfl, tv⟩, rfl⟩, tv⟩
 ·have h := An c1 h
  refine Aq (Ab (Ab (Aa Ac rfl (qm rfl (A1 AL rfl (qm rfl (Ae ?_)))))))
  refine AE (L := Cl N p0 p1) h (fun v2 => mk [(0, pD (.sl (p0.map Ak))), (1, pD (.sl (p1.map Ak))), (12, iD ((p0.length : Int))), (13, iD v2)] []) (fun v3 => mk [] []) (fun _ _ => rfl) (sm [] _ _ rfl rfl) (fun j2 n2 v2 h => ?_) (fun v3 s h hs => ?_)
  ·unfold Cl at h
   refine Ab (Aa Ac rfl (AX rfl (Ae (Ab ?_))))
   refine Ap rfl (fun c4 => ?_) (fun c4 => ?_)
   ·have h := Ao c4 h
    refine Aq (Ab (AK (Ab (Aa Ac rfl (qm rfl (qa rfl (Ae (Ab (Aa Ac rfl (qm rfl (qm rfl ?_)))))))))))
    obtain ⟨v5, a5, b5, h⟩ := Aj h
    refine qi AL Du a5 (Ag b5) rfl (qk Cm rfl (qm rfl (qm rfl ?_)))
    obtain ⟨v6, a6, b6, h⟩ := Aj h
    refine qi AL Du a6 (Ag b6) rfl (qk Cm rfl (Cp rfl (AB (by kernel_rfl) ?_)))
    refine Ap rfl (fun c7 => ?_) (fun c7 => ?_)
    ·have h := Ao c7 h
     refine Ab (Aa Ac rfl (qa rfl (Ae ?_)))
     obtain rfl := sj h
     refine Am (sm [] [(4, bD false)] [] rfl rfl) (AA ?_)
     exact ⟨⟨[_], ⟨.tmp _ _ rfl, tv⟩, rfl⟩, tv⟩
    ·have h := An c7 h
     refine Aq (Aa Ac rfl (AR rfl (qm rfl (Ae ?_))))
     exact Au _ h (sm [] _ _ rfl rfl)
   ·have h := An c4 h
    refine AS ?_
    exact Au _ h (sm [] _ _ rfl rfl)
  ·refine Am hs (Ab (Aa Ac rfl (qa rfl (Ae ?_))))
   obtain rfl := sj h
   refine Am (sm [] [(4, bD true)] [] rfl rfl) (AA ?_)
   exact ⟨⟨[_], ⟨.tmp _ _ rfl, tv⟩, rfl⟩, tv⟩
theorem Ja (N : Nat) (p0 : List Int) (p1 : Int → Option Bool) (r : Int) (h : Ef N p0 p1 = some r) : AD Tryz.prog 119 [pD (.sl (p0.map Ak)), oD (.clo (Bb (Nw false Ak) tB p1))] [] (iD r) := by
 unfold Ef at h
 refine Av (n := 19) (rs := [.tmp 4]) Tryz.func119 rfl rfl rfl (A6 rfl) (A6 rfl) rfl fun w0 S0 => ?_
 refine Ab (Aa Ac rfl (qa rfl (Ae (Ab (Ab (Aa Ac rfl (qm rfl (A1 AL rfl (qm rfl (Ae ?_))))))))))
 refine AE (L := Bw N p0 p1) h (fun v1 => mk [(0, pD (.sl (p0.map Ak))), (1, oD (.clo (Bb (Nw false Ak) tB p1))), (7, iD ((p0.length : Int))), (8, iD v1)] []) (fun v2 => mk [] []) (fun _ _ => rfl) (sm [] _ _ rfl rfl) (fun j1 n1 v1 h => ?_) (fun v2 s h hs => ?_)
 ·unfold Bw at h
  refine Ab (Aa Ac rfl (AX rfl (Ae (Ab ?_))))
  refine Ap rfl (fun c3 => ?_) (fun c3 => ?_)
  ·have h := Ao c3 h
   refine Aq (Ab (AK (Ab (Aa Ac rfl (qm rfl (qa rfl (Ae (Ab (Aa Ac rfl (qm rfl (qm rfl (qm rfl ?_))))))))))))
   obtain ⟨v4, a4, b4, h⟩ := Aj h
   refine qi AL Du a4 (Ag b4) rfl (qk Cm rfl ?_)
   obtain ⟨v5, a5, h⟩ := bind_some h
   refine CF (ds0 := [_]) (ar := (Nw false Ak) v4) (.p rfl) rfl rfl ⟨rfl, tv⟩ rfl rfl rfl (CH (Mn _ _ SW) a5) ?_
   refine Ae ?_
   refine Ap rfl (fun c6 => ?_) (fun c6 => ?_)
   ·have h := Ao c6 h
    refine Ab (Aa Ac rfl (qm rfl (qa rfl (Ae ?_))))
    obtain rfl := sj h
    refine Am (sm [] [(4, iD v1)] [] rfl rfl) (AA ?_)
    exact ⟨⟨[_], ⟨.tmp _ _ rfl, tv⟩, rfl⟩, tv⟩
   ·have h := An c6 h
    refine Aq (Aa Ac rfl (AR rfl (qm rfl (Ae ?_))))
    exact Au _ h (sm [] _ _ rfl rfl)
  ·have h := An c3 h
   refine AS ?_
   exact Au _ h (sm [] _ _ rfl rfl)
 ·refine Am hs (Ab (Aa Ac rfl (qa rfl (Ae ?_))))
  obtain rfl := sj h
  refine Am (sm [] [(4, iD ((-1)))] [] rfl rfl) (AA ?_)
  exact ⟨⟨[_], ⟨.tmp _ _ rfl, tv⟩, rfl⟩, tv⟩
theorem Iu (N : Nat) (p0 : List Int) (p1 : Int → Option Bool) (r : Bool) (h : CX N p0 p1 = some r) : AD Tryz.prog 88 [pD (.sl (p0.map Ak)), oD (.clo (Bb (Nw false Ak) tB p1))] [] (bD r) := by
 unfold CX at h
 refine Av (n := 9) (rs := [.tmp 4]) Tryz.func88 rfl rfl rfl (A6 rfl) (A6 rfl) rfl fun w0 S0 => ?_
 refine Ab (Aa Ac rfl (qa rfl (Ae (Ab (Aa Ac rfl (qm rfl (qm rfl ?_)))))))
 obtain ⟨v1, a1, h⟩ := bind_some h
 refine AJ [] (Ja N p0 p1 v1 a1) aq rfl (Cz rfl (qa rfl (Ae ?_)))
 obtain rfl := sj h
 refine Am (sm [] [(4, bD ((decide (0 ≤ v1))))] [] rfl rfl) (AA ?_)
 exact ⟨⟨[_], ⟨.tmp _ _ rfl, tv⟩, rfl⟩, tv⟩
theorem QU (N : Nat) (p0 : Int) (r : Bool) (h : Hk N p0 = some r) : AD Tryz.prog 89 [iD p0] [] (bD r) := by
 unfold Hk at h
 refine Av (n := 5) (rs := [.tmp 2]) Tryz.func89 rfl rfl rfl (A6 rfl) (A6 rfl) rfl fun w0 S0 => ?_
 refine Ab (Aa Ac rfl (qa rfl (Ae (Ab (Aa Ac rfl (qm rfl (Cz rfl (qa rfl (Ae ?_)))))))))
 obtain rfl := sj h
 refine Am (sm [] [(2, bD ((decide (0 ≤ p0))))] [] rfl rfl) (AA ?_)
 exact ⟨⟨[_], ⟨.tmp _ _ rfl, tv⟩, rfl⟩, tv⟩
theorem O0 (N : Nat) (p0 : Ah) (p1 : Af) (r : Bool) (h : HH N p0 p1 = some r) : AD Tryz.prog 42 [.e (.agg [sC (p0.fb.map Ak), sC (p0.ff.map Ak), sC (p0.fh.map Ak), sC (p0.fc.map Ar)]), .e (.agg [sC (p1.fd.map Ak), sC (p1.fa.map Ak), sC (p1.fe.map Bn)])] [] (bD r) := by
 unfold HH at h
 refine Av (n := 22) (rs := [.tmp 4]) Tryz.func42 rfl rfl rfl (A6 rfl) (A6 rfl) rfl fun w0 S0 => ?_
 refine Ab (Aa Ac rfl (qb rfl (qb rfl (qa rfl (Ae ?_)))))
 refine AO h (fun v1 => mk [(4, bD v1)] []) (fun j1 h => ?_) (fun v1 h => ?_)
 ·refine Aa Ac rfl (qL DL Di rfl (qL A7 Az rfl ?_))
  obtain ⟨v2, a2, h⟩ := bind_some h
  refine AJ [] (Iw N p0 p1 v2 a2) Vi rfl (BK rfl (qm rfl ?_))
  refine AF (t := 9) rfl (fun c3 => ?_) (fun c3 => ?_)
  ·have h := Ao c3 h
   refine qf CO rfl (ql Bo rfl (qf Ip rfl (ql Bo rfl ?_)))
   obtain ⟨v4, a4, h⟩ := bind_some h
   refine AJ [] (Kk N p1.fd p0.fh v4 a4) bh rfl (qp rfl (qm rfl ?_))
   refine AF (t := 16) rfl (fun c5 => ?_) (fun c5 => ?_)
   ·have h := Ao c5 h
    refine qf BH rfl (ql Bo rfl ?_)
    obtain ⟨v6, a6, h⟩ := bind_some h
    refine AJ [] (AD.weak (ds' := [pD (.sl (p1.fa.map Ak)), oD (.fnc 89)]) (Iu N p1.fa ((fun (x : Int) => Hk N x)) v6 a6) ⟨(fun _ _ _ hh => hh), (fun _ _ _ hh => Qg bp (fun ar t ht => by obtain ⟨x, r, rfl, hq, rfl⟩ := Ij ht; exact QU N x r hq) hh), tv⟩) bZ rfl ?_
    refine BW rfl (qp rfl (qa rfl (Ae ?_)))
    exact Au _ h (sm [] _ _ rfl rfl)
   ·have h := An c5 h
    refine qn rfl (qn rfl (qn rfl (qn rfl (qp rfl (qa rfl (Ae ?_))))))
    exact Au _ h (sm [] _ _ rfl rfl)
  ·have h := An c3 h
   refine qn rfl (qn rfl (qn rfl (qn rfl (qn rfl (qp rfl (qm rfl (qn rfl (qn rfl (qn rfl (qn rfl (qp rfl (qa rfl (Ae ?_)))))))))))))
   exact Au _ h (sm [] _ _ rfl rfl)
 ·obtain rfl := sj h
  refine Am (sm [] [(4, bD v1)] [] rfl rfl) (AA ?_)
  exact ⟨⟨[_], ⟨.tmp _ _ rfl, tv⟩, rfl⟩, tv⟩
theorem Nb (N : Nat) (p0 : Af) (p1 : List Int) (p2 : List Int) (p3 : List Int) (p4 : List AQ) (r : Bool) (h : Ei N p0 p1 p2 p3 p4 = some r) : AD Tryz.prog 41 [.e (.agg [sC (p0.fd.map Ak), sC (p0.fa.map Ak), sC (p0.fe.map Bn)]), oD (.rop [.sl (p1.map Ak), .sl (p2.map Ak), .sl (p3.map Ak), .sl (p4.map Ar)])] [] (bD r) := by
 unfold Ei at h
 refine Av (n := 7) (rs := [.tmp 3]) Tryz.func41 rfl rfl rfl (A6 rfl) (A6 rfl) rfl fun w0 S0 => ?_
 refine Ab (Aa Ac rfl (qb rfl (qa rfl (Ae (Ab (Aa Ac rfl (qK DL Di rfl (qL A7 Az rfl ?_))))))))
 obtain ⟨v1, a1, h⟩ := bind_some h
 refine AJ [] (O0 N ((Ah.mk p1 p2 p3 p4)) p0 v1 a1) ZC rfl (qa rfl (Ae ?_))
 obtain rfl := sj h
 refine Am (sm [] [(3, bD v1)] [] rfl rfl) (AA ?_)
 exact ⟨⟨[_], ⟨.tmp _ _ rfl, tv⟩, rfl⟩, tv⟩
theorem Hz (N : Nat) (p0 : List Af) (p1 : Af → Option Bool) (r : Int) (h : CZ N p0 p1 = some r) : AD Tryz.prog 75 [pD (.sl (p0.map Ai)), oD (.clo (Bb (Nw true Ai) tB p1))] [] (iD r) := by
 unfold CZ at h
 refine Av (n := 19) (rs := [.tmp 4]) Tryz.func75 rfl rfl rfl (A6 rfl) (A6 rfl) rfl fun w0 S0 => ?_
 refine Ab (Aa Ac rfl (qa rfl (Ae (Ab (Ab (Aa Ac rfl (qm rfl (A1 AV rfl (qm rfl (Ae ?_))))))))))
 refine AE (L := Bp N p0 p1) h (fun v1 => mk [(0, pD (.sl (p0.map Ai))), (1, oD (.clo (Bb (Nw true Ai) tB p1))), (7, iD ((p0.length : Int))), (8, iD v1)] []) (fun v2 => mk [] []) (fun _ _ => rfl) (sm [] _ _ rfl rfl) (fun j1 n1 v1 h => ?_) (fun v2 s h hs => ?_)
 ·unfold Bp at h
  refine Ab (Aa Ac rfl (AX rfl (Ae (Ab ?_))))
  refine Ap rfl (fun c3 => ?_) (fun c3 => ?_)
  ·have h := Ao c3 h
   refine Aq (Ab (AK (Ab (Aa Ac rfl (qm rfl (qa rfl (Ae (Ab (Aa Ac rfl (qm rfl (qm rfl (qm rfl ?_))))))))))))
   obtain ⟨v4, a4, b4, h⟩ := Aj h
   refine qi AV Az a4 (Ag b4) rfl (qK A7 Az rfl ?_)
   obtain ⟨v5, a5, h⟩ := bind_some h
   refine CF (ds0 := [_]) (ar := (Nw true Ai) v4) (.p rfl) rfl rfl ⟨rfl, tv⟩ rfl rfl rfl (CH (Mn _ _ BI) a5) ?_
   refine Ae ?_
   refine Ap rfl (fun c6 => ?_) (fun c6 => ?_)
   ·have h := Ao c6 h
    refine Ab (Aa Ac rfl (qm rfl (qa rfl (Ae ?_))))
    obtain rfl := sj h
    refine Am (sm [] [(4, iD v1)] [] rfl rfl) (AA ?_)
    exact ⟨⟨[_], ⟨.tmp _ _ rfl, tv⟩, rfl⟩, tv⟩
   ·have h := An c6 h
    refine Aq (Aa Ac rfl (AR rfl (qm rfl (Ae ?_))))
    exact Au _ h (sm [] _ _ rfl rfl)
  ·have h := An c3 h
   refine AS ?_
   exact Au _ h (sm [] _ _ rfl rfl)
 ·refine Am hs (Ab (Aa Ac rfl (qa rfl (Ae ?_))))
  obtain rfl := sj h
  refine Am (sm [] [(4, iD ((-1)))] [] rfl rfl) (AA ?_)
  exact ⟨⟨[_], ⟨.tmp _ _ rfl, tv⟩, rfl⟩, tv⟩
theorem GU (N : Nat) (p0 : List Af) (p1 : Af → Option Bool) (r : Bool) (h : B1 N p0 p1 = some r) : AD Tryz.prog 30 [pD (.sl (p0.map Ai)), oD (.clo (Bb (Nw true Ai) tB p1))] [] (bD r) := by
 unfold B1 at h
 refine Av (n := 9) (rs := [.tmp 4]) Tryz.func30 rfl rfl rfl (A6 rfl) (A6 rfl) rfl fun w0 S0 => ?_
 refine Ab (Aa Ac rfl (qa rfl (Ae (Ab (Aa Ac rfl (qm rfl (qm rfl ?_)))))))
 obtain ⟨v1, a1, h⟩ := bind_some h
 refine AJ [] (Hz N p0 p1 v1 a1) bF rfl (Cz rfl (qa rfl (Ae ?_)))
 obtain rfl := sj h
 refine Am (sm [] [(4, bD ((decide (0 ≤ v1))))] [] rfl rfl) (AA ?_)
 exact ⟨⟨[_], ⟨.tmp _ _ rfl, tv⟩, rfl⟩, tv⟩
theorem Lf (N : Nat) (p0 : Ah) (r : (List Af) × Int) (h : Fy N p0 = some r) : AD Tryz.prog 12 [.e (.agg [sC (p0.fb.map Ak), sC (p0.ff.map Ak), sC (p0.fh.map Ak), sC (p0.fc.map Ar)])] [(3, r.1.map Ai)] (.tup [.one (.own 0), .one (iC r.2)]) := by
 unfold Fy at h
 refine Av (n := 18) (rs := [.tmp 2, .tmp 3]) Tryz.func12 rfl rfl rfl (A6 rfl) (A6 rfl) rfl fun w0 S0 => ?_
 refine Ab (Aa Ac rfl (qb rfl (qa rfl (qa rfl (Ae (Ab (Aa Ac rfl (qL DL Di rfl ?_))))))))
 obtain ⟨v1, a1, h⟩ := bind_some h
 refine AJ [2001] (OP N p0 v1 a1) bO rfl (qm rfl (qx rfl (qx rfl (qa rfl (qa rfl (Ae (Ab (Ab (Aa Ac rfl (qm rfl (Cp rfl (Ae ?_))))))))))))
 refine Ap rfl (fun c2 => ?_) (fun c2 => ?_)
 ·have h := Ao c2 h
  refine Ab (Aa Ac rfl (qm rfl (qa rfl (qa rfl (Ae ?_)))))
  obtain rfl := sj h
  refine Am ((Bu 2 2002 3 rfl rfl rfl).trans (sm [(1000, 2002)] [(2, oD (.own 1000)), (3, iD v1.2)] [(1000, .vec 3 ((([] : List Af)).map Ai))] rfl rfl)) (AA ?_)
  exact ⟨⟨[_, _], ⟨.tmp _ _ rfl, ⟨.tmp _ _ rfl, tv⟩⟩, rfl⟩, ⟨rfl, tv⟩⟩
 ·have h := An c2 h
  refine Aq (Ab (Ab (Aa Ac rfl (qm rfl (DT (MB 1 [.sl (p0.fb.map Ak), .sl (p0.ff.map Ak), .sl (p0.fh.map Ak), .sl (p0.fc.map Ar)] rfl rfl) ?_)))))
  refine LN (capD := [_]) (Bb (Nw true Ai) tB ((fun (x : Af) => Ei N x p0.fb p0.ff p0.fh p0.fc))) (.p rfl) bN rfl ⟨rfl, tv⟩ rfl (fun ar t ht => by obtain ⟨x, r, rfl, hq, rfl⟩ := Ij ht; exact Nb N x p0.fb p0.ff p0.fh p0.fc r hq) ?_
  obtain ⟨v3, a3, h⟩ := bind_some h
  refine Dj [] [2001] (GU N v1.1 ((fun (x : Af) => Ei N x p0.fb p0.ff p0.fh p0.fc)) v3 a3) bI B4 rfl (Ae ?_)
  refine Ap rfl (fun c4 => ?_) (fun c4 => ?_)
  ·have h := Ao c4 h
   refine Ab (Aa Ac rfl (qa rfl (qa rfl (Ae ?_))))
   obtain rfl := sj h
   refine Am ((Bu 2 2003 3 rfl rfl rfl).trans (sm [(1000, 2003)] [(2, oD (.own 1000)), (3, iD 15)] [(1000, .vec 3 ((([] : List Af)).map Ai))] rfl rfl)) (AA ?_)
   exact ⟨⟨[_, _], ⟨.tmp _ _ rfl, ⟨.tmp _ _ rfl, tv⟩⟩, rfl⟩, ⟨rfl, tv⟩⟩
  ·have h := An c4 h
   refine Aq (Ab (Aa Ac rfl (qm rfl (qa rfl (qa rfl (Ae ?_))))))
   obtain rfl := sj h
   refine Am (sm [(1000, 2001)] [(2, oD (.own 1000)), (3, iD 0)] [(1000, .vec 3 (v1.1.map Ai))] rfl rfl) (AA ?_)
   exact ⟨⟨[_, _], ⟨.tmp _ _ rfl, ⟨.tmp _ _ rfl, tv⟩⟩, rfl⟩, ⟨rfl, tv⟩⟩
theorem M8 (N : Nat) (p0 : Ah) (p1 : Af) (r : (List CD) × Int) (h : HZ N p0 p1 = some r) : AD Tryz.prog 18 [.e (.agg [sC (p0.fb.map Ak), sC (p0.ff.map Ak), sC (p0.fh.map Ak), sC (p0.fc.map Ar)]), .e (.agg [sC (p1.fd.map Ak), sC (p1.fa.map Ak), sC (p1.fe.map Bn)])] [(9, r.1.map D9)] (.tup [.one (.own 0), .one (iC r.2)]) := by
 unfold HZ at h
 refine Av (n := 56) (rs := [.tmp 4, .tmp 5]) Tryz.func18 rfl rfl rfl (A6 rfl) (A6 rfl) rfl fun w0 S0 => ?_
 refine Ab (Aa Ac rfl (qb rfl (qb rfl (qa rfl (qa rfl (Ae (Ab (Aa Ac rfl (qL DL Di rfl (qL A7 Az rfl ?_))))))))))
 obtain ⟨v1, a1, h⟩ := bind_some h
 refine AJ [2001] (Jo N p0 p1 v1 a1) Yb rfl (qm rfl (qx rfl (qx rfl (qa rfl (qa rfl (Ae (Ab (Ab (Aa Ac rfl (qm rfl (Cp rfl (Ae ?_))))))))))))
 refine Ap rfl (fun c2 => ?_) (fun c2 => ?_)
 ·have h := Ao c2 h
  refine Ab (Aa Ac rfl (qm rfl (qa rfl (qa rfl (Ae ?_)))))
  obtain rfl := sj h
  refine Am ((Bu 4 2002 9 rfl rfl rfl).trans (sm [(1000, 2002)] [(4, oD (.own 1000)), (5, iD v1.2)] [(1000, .vec 9 ((([] : List CD)).map D9))] rfl rfl)) (AA ?_)
  exact ⟨⟨[_, _], ⟨.tmp _ _ rfl, ⟨.tmp _ _ rfl, tv⟩⟩, rfl⟩, ⟨rfl, tv⟩⟩
 ·have h := An c2 h
  refine Aq (Ab (Aa Ac rfl (qa rfl (Ae (Ab (Ab (Aa Ac rfl (qm rfl (EN Fm rfl (qm rfl (Ae ?_)))))))))))
  refine AE (L := FE N p0 p1 v1) h (fun v3 => mk [(2, oD (.ptr 2 0)), (3, oD (.ptr 3 0)), (8, oD (.own 2003)), (25, oD (.own 2004)), (26, iD ((v1.1.length : Int))), (27, iD v3.2)] [(2, .box [sC (p0.fb.map Ak), sC (p0.ff.map Ak), sC (p0.fh.map Ak), sC (p0.fc.map Ar)]), (3, .box [sC (p1.fd.map Ak), sC (p1.fa.map Ak), sC (p1.fe.map Bn)]), (2003, .vec 9 (v3.1.map D9)), (2004, .vec 3 (v1.1.map A4))]) (fun v4 => mk [(8, oD (.own 2005))] [(2005, .vec 9 (v4.map D9))]) (fun _ _ => rfl) ((Bu 8 2011 9 rfl rfl rfl).trans (sm [(2003, 2011), (2004, 2001)] _ _ rfl rfl)) (fun j3 n3 v3 h => ?_) (fun v4 s h hs => ?_)
  ·unfold FE at h
   refine Ab (Aa Ac rfl (AX rfl (Ae (Ab ?_))))
   refine Ap rfl (fun c5 => ?_) (fun c5 => ?_)
   ·have h := Ao c5 h
    refine Aq ?_
    refine AO h (fun v6 => mk [(2, oD (.ptr 2 0)), (3, oD (.ptr 3 0)), (8, oD (.own 2006)), (25, oD (.own 2007)), (26, iD ((v1.1.length : Int))), (27, iD v3.2)] [(2, .box [sC (p0.fb.map Ak), sC (p0.ff.map Ak), sC (p0.fh.map Ak), sC (p0.fc.map Ar)]), (3, .box [sC (p1.fd.map Ak), sC (p1.fa.map Ak), sC (p1.fe.map Bn)]), (2006, .vec 9 (v6.map D9)), (2007, .vec 3 (v1.1.map A4))]) (fun j6 h => ?_) (fun v6 h => ?_)
    ·refine AK (Ab (Aa Ac rfl ?_))
     obtain ⟨v7, a7, b7, h⟩ := Aj h
     refine qI Fm Fb a7 (Ag b7) rfl (qJ I0 Fb (Ag b7) rfl (qz JU rfl (qs Fb rfl (Ae (Ab (Aa Ac rfl (qL DL Di rfl (qL A7 Az rfl (qL I0 Fb rfl ?_)))))))))
     obtain ⟨v8, a8, h⟩ := bind_some h
     refine AJ [2008, 2009, 2010] (Km N p0 p1 v7 v8 a8) Yo rfl (qm rfl (qx rfl (qx rfl (qz Cw rfl (qs Az rfl (qa rfl (Ae (Ab (Aa Ac rfl (qL DL Di rfl (qL A7 Az rfl (DT (Bk 2008 _ _ rfl rfl) (DT (Bk 2009 _ _ rfl rfl) (DT (Bk 2010 _ _ rfl rfl) ?_))))))))))))))
     obtain ⟨v9, a9, h⟩ := bind_some h
     refine AJ [] (NB N p0 v8.1 v9 a9) Y8 rfl (qm rfl (qx rfl (qx rfl (qx rfl (qz Cw rfl (qz Jk rfl (qs Az rfl (qs A2 rfl (qa rfl (Ae (Ab (Aa Ac rfl (qm rfl (BK rfl (Ae ?_)))))))))))))))
     refine Ap rfl (fun c10 => ?_) (fun c10 => ?_)
     ·have h := Ao c10 h
      refine Aa Ac rfl (qm rfl (qL I0 Fb rfl (qL A7 Az rfl (qL Do A2 rfl (Bz UZ aZ rfl (DY LG RE UZ rfl ?_))))))
      obtain ⟨c11, h⟩ := AU h
      refine DO (f := D9) LG LG RE XC UZ c11 rfl (qa rfl (Ae ?_))
      exact Au _ h (sm [(2006, 53), (2007, 2004)] _ _ rfl rfl)
     ·have h := An c10 h
      refine Aq ?_
      exact Au _ h (sm [(2006, 2003), (2007, 2004)] _ _ rfl rfl)
    ·refine Aa Ac rfl (AR rfl (qm rfl (Ae ?_)))
     exact Au _ h (sm [(2003, 2006), (2004, 2007)] _ _ rfl rfl)
   ·have h := An c5 h
    refine AS ?_
    exact Au _ h (sm [(2005, 2003)] _ _ rfl rfl)
  ·refine Am hs (Ab (Aa Ac rfl (qm rfl (qa rfl (qa rfl (Ae ?_))))))
   obtain rfl := sj h
   refine Am (sm [(1000, 2005)] [(4, oD (.own 1000)), (5, iD 0)] [(1000, .vec 9 (v4.map D9))] rfl rfl) (AA ?_)
   exact ⟨⟨[_, _], ⟨.tmp _ _ rfl, ⟨.tmp _ _ rfl, tv⟩⟩, rfl⟩, ⟨rfl, tv⟩⟩
theorem KC (N : Nat) (p0 : Ah) (p1 : List Af) (r : (List CD) × Int) (h : GS N p0 p1 = some r) : AD Tryz.prog 21 [.e (.agg [sC (p0.fb.map Ak), sC (p0.ff.map Ak), sC (p0.fh.map Ak), sC (p0.fc.map Ar)]), pD (.sl (p1.map Ai))] [(9, r.1.map D9)] (.tup [.one (.own 0), .one (iC r.2)]) := by
 unfold GS at h
 refine Av (n := 37) (rs := [.tmp 4, .tmp 5]) Tryz.func21 rfl rfl rfl (A6 rfl) (A6 rfl) rfl fun w0 S0 => ?_
 refine Ab (Aa Ac rfl (qb rfl (qa rfl (qa rfl (Ae (Ab (Ab (Aa Ac rfl (qL DL Di rfl ?_)))))))))
 obtain ⟨v1, a1, h⟩ := bind_some h
 refine AJ [] (FK N p0 v1 a1) Xb rfl (qa rfl (Ae (Ab (Aa Ac rfl (qm rfl (Cp rfl (Ae ?_)))))))
 refine Ap rfl (fun c2 => ?_) (fun c2 => ?_)
 ·have h := Ao c2 h
  refine Ab (Aa Ac rfl (qm rfl (qa rfl (qa rfl (Ae ?_)))))
  obtain rfl := sj h
  refine Am ((Bu 4 2001 9 rfl rfl rfl).trans (sm [(1000, 2001)] [(4, oD (.own 1000)), (5, iD v1)] [(1000, .vec 9 ((([] : List CD)).map D9))] rfl rfl)) (AA ?_)
  exact ⟨⟨[_, _], ⟨.tmp _ _ rfl, ⟨.tmp _ _ rfl, tv⟩⟩, rfl⟩, ⟨rfl, tv⟩⟩
 ·have h := An c2 h
  refine Aq (Ab (Aa Ac rfl (qa rfl (Ae (Ab (Ab (Aa Ac rfl (qm rfl (A1 AV rfl (qm rfl (Ae ?_)))))))))))
  refine AE (L := FT N p0 p1) h (fun v3 => mk [(2, oD (.ptr 2 0)), (7, oD (.own 2002)), (17, pD (.sl (p1.map Ai))), (18, iD ((p1.length : Int))), (19, iD v3.2)] [(2, .box [sC (p0.fb.map Ak), sC (p0.ff.map Ak), sC (p0.fh.map Ak), sC (p0.fc.map Ar)]), (2002, .vec 9 (v3.1.map D9))]) (fun v4 => mk [(7, oD (.own 2003))] [(2003, .vec 9 (v4.map D9))]) (fun _ _ => rfl) ((Bu 7 2006 9 rfl rfl rfl).trans (sm [(2002, 2006)] _ _ rfl rfl)) (fun j3 n3 v3 h => ?_) (fun v4 s h hs => ?_)
  ·unfold FT at h
   refine Ab (Aa Ac rfl (AX rfl (Ae (Ab ?_))))
   refine Ap rfl (fun c5 => ?_) (fun c5 => ?_)
   ·have h := Ao c5 h
    refine Aq (Ab (AK (Ab (Aa Ac rfl ?_))))
    obtain ⟨v6, a6, b6, h⟩ := Aj h
    refine qi AV Az a6 (Ag b6) rfl (qK A7 Az rfl (qz Cw rfl (qs Az rfl (Ae (Ab (Aa Ac rfl (qL DL Di rfl (qL A7 Az rfl ?_))))))))
    obtain ⟨v7, a7, h⟩ := bind_some h
    refine AJ [2004] (M8 N p0 v6 v7 a7) bo rfl (qm rfl (qx rfl (qx rfl (qa rfl (qa rfl (Ae (Ab (Ab (Aa Ac rfl (qm rfl (Cp rfl (Ae ?_))))))))))))
    refine Ap rfl (fun c8 => ?_) (fun c8 => ?_)
    ·have h := Ao c8 h
     refine Ab (Aa Ac rfl (qm rfl (qa rfl (qa rfl (Ae ?_)))))
     obtain rfl := sj h
     refine Am ((Bu 4 2005 9 rfl rfl rfl).trans (sm [(1000, 2005)] [(4, oD (.own 1000)), (5, iD v7.2)] [(1000, .vec 9 ((([] : List CD)).map D9))] rfl rfl)) (AA ?_)
     exact ⟨⟨[_, _], ⟨.tmp _ _ rfl, ⟨.tmp _ _ rfl, tv⟩⟩, rfl⟩, ⟨rfl, tv⟩⟩
    ·have h := An c8 h
     refine Aq (Aa Ac rfl (qm rfl (qm rfl ?_)))
     obtain ⟨c9, h⟩ := AU h
     refine DO (f := D9) LG LG RE XC UZ c9 rfl (qa rfl (Ae (Aa Ac rfl (AR rfl (qm rfl (Ae ?_))))))
     exact Au _ h (sm [(2002, 34)] _ _ rfl rfl)
   ·have h := An c5 h
    refine AS ?_
    exact Au _ h (sm [(2003, 2002)] _ _ rfl rfl)
  ·refine Am hs (Ab (Aa Ac rfl (qm rfl (qa rfl (qa rfl (Ae ?_))))))
   obtain rfl := sj h
   refine Am (sm [(1000, 2003)] [(4, oD (.own 1000)), (5, iD 0)] [(1000, .vec 9 (v4.map D9))] rfl rfl) (AA ?_)
   exact ⟨⟨[_, _], ⟨.tmp _ _ rfl, ⟨.tmp _ _ rfl, tv⟩⟩, rfl⟩, ⟨rfl, tv⟩⟩
theorem Ga (N : Nat) (p0 : List Al) (p1 : Int) (p2 : Int) (p3 : (Al × Al) → Option Int) (r : (List Al)) (h : Gs.insertionSort N p0 p1 p2 p3 = some r) : Bj Tryz.prog 132 [oD (.own 90000), iD p1, iD p2, oD (.clo (Bb (Co true Ad true Ad) Bi p3))] [(.vec 3 (p0.map Ad), .vec 3 (r.map Ad))] [] (.tup []) := by
 unfold Gs.insertionSort at h
 refine A9 (n := 53) (rs := []) Tryz.func132 rfl rfl rfl (A6 rfl) (A6 rfl) rfl rfl (A6 rfl) rfl (A6 rfl) fun w0 S0 GL => JI ?_
 refine Am (sm [] [(0, oD (.own 90000)), (1, iD p1), (2, iD p2), (3, oD (.clo (Bb (Co true Ad true Ad) Bi p3)))] [(90000, .vec 3 (p0.map Ad))] rfl rfl) (Ab (Aa Ac rfl (qm rfl (AR rfl (qa rfl (Ae ?_))))))
 refine AE (L := Gs.insertionSort_L1 N p1 p2 p3) h (fun v1 => mk [(0, oD (.own 90000)), (1, iD p1), (2, iD p2), (3, oD (.clo (Bb (Co true Ad true Ad) Bi p3))), (8, iD v1.2)] [(90000, .vec 3 (v1.1.map Ad))]) (fun v2 => mk [] [(90000, .vec 3 (v2.map Ad))]) (fun _ _ => rfl) (sm [] _ _ rfl rfl) (fun j1 n1 v1 h => ?_) (fun v2 s h hs => ?_)
 ·unfold Gs.insertionSort_L1 at h
  refine Ab (Ab (Aa Ac rfl (qm rfl (qm rfl (AX rfl (Ae ?_))))))
  refine Ap rfl (fun c3 => ?_) (fun c3 => ?_)
  ·have h := Ao c3 h
   refine Aq (Ab (AK (Ab (Aa Ac rfl (qm rfl (qa rfl (Ae ?_)))))))
   refine AE (L := Gs.insertionSort_L4 N p1 p3) h (fun v4 => mk [(0, oD (.own 90000)), (1, iD p1), (2, iD p2), (3, oD (.clo (Bb (Co true Ad true Ad) Bi p3))), (8, iD v1.2), (9, iD v4.2)] [(90000, .vec 3 (v4.1.map Ad))]) (fun v5 => mk [(0, oD (.own 90000)), (1, iD p1), (2, iD p2), (3, oD (.clo (Bb (Co true Ad true Ad) Bi p3))), (8, iD v1.2)] [(90000, .vec 3 (v5.map Ad))]) (fun _ _ => rfl) (sm [] _ _ rfl rfl) (fun j4 n4 v4 h => ?_) (fun v5 s h hs => ?_)
   ·unfold Gs.insertionSort_L4 at h
    refine Ab ?_
    refine AO h (fun v6 => mk [(0, oD (.own 90000)), (1, iD p1), (2, iD p2), (3, oD (.clo (Bb (Co true Ad true Ad) Bi p3))), (8, iD v1.2), (9, iD v4.2), (34, bD v6)] [(90000, .vec 3 (v4.1.map Ad))]) (fun j6 h => ?_) (fun v6 h => ?_)
    ·refine Aa Ac rfl (qm rfl (qm rfl (E2 rfl (qm rfl ?_))))
     refine AF (t := 21) rfl (fun c7 => ?_) (fun c7 => ?_)
     ·have h := Ao c7 h
      refine qm rfl (qm rfl (qm rfl ?_))
      obtain ⟨v8, a8, b8, h⟩ := Aj h
      refine qI Ba A2 a8 (Ag b8) rfl (qJ Do A2 (Ag b8) rfl (qm rfl (qm rfl (Bm rfl ?_))))
      obtain ⟨v9, a9, b9, h⟩ := Aj h
      refine qI Ba A2 a9 (Ag b9) rfl (qJ Do A2 (Ag b9) rfl ?_)
      obtain ⟨v10, a10, h⟩ := bind_some h
      refine CF (ds0 := [_, _]) (ar := (Co true Ad true Ad) ((v8, v9))) (.g rfl rfl) rfl rfl ⟨rfl, rfl, tv⟩ rfl rfl rfl (CH (Dd _ _ _ _ Be Be) a10) ?_
      refine AX rfl (qp rfl (AB (by kernel_rfl) ?_))
      exact Au _ h (sm [] _ _ rfl rfl)
     ·have h := An c7 h
      refine qn rfl (qn rfl (qn rfl (qn rfl (qn rfl (qn rfl (qn rfl (qn rfl (qn rfl (qn rfl (qn rfl (qn rfl (qp rfl (AB (by kernel_rfl) ?_)))))))))))))
      exact Au _ h (sm [] _ _ rfl rfl)
    ·refine Ap rfl (fun c11 => ?_) (fun c11 => ?_)
     ·have h := Ao c11 h
      refine Aq (Ab (AK (Aa Ac rfl (qm rfl (qm rfl (qm rfl (qm rfl (Bm rfl (qm rfl (qm rfl (Bm rfl ?_)))))))))))
      obtain ⟨v12, a12, b12, h⟩ := Aj h
      refine qI Ba A2 a12 (Ag b12) rfl (qJ Do A2 (Ag b12) rfl (qm rfl (qm rfl ?_)))
      obtain ⟨v13, a13, b13, h⟩ := Aj h
      refine qI Ba A2 a13 (Ag b13) rfl (qJ Do A2 (Ag b13) rfl ?_)
      obtain ⟨v14, a14, b14, h⟩ := Aj h
      refine qI Ba A2 a14 (Ag b14) rfl ?_
      refine AY rfl rfl rfl rfl (Ag b14) rfl A2 rfl (A6 rfl) (AZ Ad v4.1 _ v12) ?_
      obtain ⟨v15, a15, b15, h⟩ := Aj h
      refine qI Ba A2 a15 (Ag b15) rfl ?_
      refine AY rfl rfl rfl rfl (Ag b15) rfl A2 rfl (A6 rfl) (AZ Ad (v4.1.set ((v4.2).toNat) v12) _ v13) ?_
      refine AB (by kernel_rfl) (Aa Ac rfl (qm rfl (Bm rfl (qa rfl (Ae ?_)))))
      exact Au _ h (sm [] _ _ rfl rfl)
     ·have h := An c11 h
      refine AS ?_
      exact Au _ h (sm [] _ _ rfl rfl)
   ·refine Am hs (Aa Ac rfl (qm rfl (AR rfl (qa rfl (Ae ?_)))))
    exact Au _ h (sm [] _ _ rfl rfl)
  ·have h := An c3 h
   refine AS ?_
   exact Au _ h (sm [] _ _ rfl rfl)
 ·obtain rfl := sj h
  refine ⟨_, hs.trans (sm [] [] [(90000, .vec 3 (v2.map Ad))] rfl rfl), ?_⟩
  exact ⟨⟨[], tv, rfl⟩, ⟨rfl, tv⟩, tv⟩
theorem E3 (N : Nat) (p0 : List Al) (p1 : Int) (p2 : Int) (p3 : Int) (p4 : (Al × Al) → Option Int) (r : (List Al)) (h : Gs.siftDown N p0 p1 p2 p3 p4 = some r) : Bj Tryz.prog 161 [oD (.own 90000), iD p1, iD p2, iD p3, oD (.clo (Bb (Co true Ad true Ad) Bi p4))] [(.vec 3 (p0.map Ad), .vec 3 (r.map Ad))] [] (.tup []) := by
 unfold Gs.siftDown at h
 refine A9 (n := 82) (rs := []) Tryz.func161 rfl rfl rfl (A6 rfl) (A6 rfl) rfl rfl (A6 rfl) rfl (A6 rfl) fun w0 S0 GL => JI ?_
 refine Am (sm [] [(0, oD (.own 90000)), (1, iD p1), (2, iD p2), (3, iD p3), (4, oD (.clo (Bb (Co true Ad true Ad) Bi p4)))] [(90000, .vec 3 (p0.map Ad))] rfl rfl) (Ab (Aa Ac rfl (qm rfl (qa rfl (Ae ?_)))))
 refine AE (L := Gs.siftDown_L1 N p2 p3 p4) h (fun v1 => mk [(0, oD (.own 90000)), (2, iD p2), (3, iD p3), (4, oD (.clo (Bb (Co true Ad true Ad) Bi p4))), (10, iD v1.2)] [(90000, .vec 3 (v1.1.map Ad))]) (fun v2 => mk [] [(90000, .vec 3 (v2.map Ad))]) (fun _ _ => rfl) (sm [] _ _ rfl rfl) (fun j1 n1 v1 h => ?_) (fun v2 s h hs => ?_)
 ·unfold Gs.siftDown_L1 at h
  refine AK (Ab (Aa Ac rfl (qm rfl (HJ rfl (AR rfl (qa rfl (Ae (Ab (Ab (Aa Ac rfl (qm rfl (qm rfl (Cz rfl (Ae ?_))))))))))))))
  refine Ap rfl (fun c3 => ?_) (fun c3 => ?_)
  ·have h := Ao c3 h
   refine AS ?_
   exact Au _ h (sm [] _ _ rfl rfl)
  ·have h := An c3 h
   refine Aq ?_
   refine AO h (fun v4 => mk [(0, oD (.own 90000)), (2, iD p2), (3, iD p3), (4, oD (.clo (Bb (Co true Ad true Ad) Bi p4))), (10, iD v1.2), (11, iD v4)] [(90000, .vec 3 (v1.1.map Ad))]) (fun j4 h => ?_) (fun v4 h => ?_)
   ·refine AO h (fun v5 => mk [(0, oD (.own 90000)), (2, iD p2), (3, iD p3), (4, oD (.clo (Bb (Co true Ad true Ad) Bi p4))), (10, iD v1.2), (11, iD ((wI .i64 ((wI .i64 (2 * v1.2)) + 1)))), (40, bD v5)] [(90000, .vec 3 (v1.1.map Ad))]) (fun j5 h => ?_) (fun v5 h => ?_)
    ·refine Aa Ac rfl (qm rfl (AR rfl (qm rfl (AX rfl (qm rfl ?_)))))
     refine AF (t := 23) rfl (fun c6 => ?_) (fun c6 => ?_)
     ·have h := Ao c6 h
      refine qm rfl (qm rfl (qm rfl (qm rfl (AR rfl ?_))))
      obtain ⟨v7, a7, b7, h⟩ := Aj h
      refine qI Ba A2 a7 (Ag b7) rfl (qJ Do A2 (Ag b7) rfl (qm rfl (qm rfl (qm rfl (AR rfl (AR rfl ?_))))))
      obtain ⟨v8, a8, b8, h⟩ := Aj h
      refine qI Ba A2 a8 (Ag b8) rfl (qJ Do A2 (Ag b8) rfl ?_)
      obtain ⟨v9, a9, h⟩ := bind_some h
      refine CF (ds0 := [_, _]) (ar := (Co true Ad true Ad) ((v7, v8))) (.g rfl rfl) rfl rfl ⟨rfl, rfl, tv⟩ rfl rfl rfl (CH (Dd _ _ _ _ Be Be) a9) ?_
      refine AX rfl (qp rfl (AB (by kernel_rfl) ?_))
      exact Au _ h (sm [] _ _ rfl rfl)
     ·have h := An c6 h
      refine qn rfl (qn rfl (qn rfl (qn rfl (qn rfl (qn rfl (qn rfl (qn rfl (qn rfl (qn rfl (qn rfl (qn rfl (qn rfl (qn rfl (qn rfl (qn rfl (qp rfl (AB (by kernel_rfl) ?_)))))))))))))))))
      exact Au _ h (sm [] _ _ rfl rfl)
    ·refine Ap rfl (fun c10 => ?_) (fun c10 => ?_)
     ·have h := Ao c10 h
      refine Aa Ac rfl (qm rfl (AR rfl (qa rfl (Ae ?_))))
      exact Au _ h (sm [] _ _ rfl rfl)
     ·have h := An c10 h
      refine Aq ?_
      exact Au _ h (sm [] _ _ rfl rfl)
   ·refine Ab (Ab (Aa Ac rfl (qm rfl (qm rfl (qm rfl (qm rfl (AR rfl ?_)))))))
    obtain ⟨v11, a11, b11, h⟩ := Aj h
    refine qI Ba A2 a11 (Ag b11) rfl (qJ Do A2 (Ag b11) rfl (qm rfl (qm rfl (qm rfl (AR rfl ?_)))))
    obtain ⟨v12, a12, b12, h⟩ := Aj h
    refine qI Ba A2 a12 (Ag b12) rfl (qJ Do A2 (Ag b12) rfl ?_)
    obtain ⟨v13, a13, h⟩ := bind_some h
    refine CF (ds0 := [_, _]) (ar := (Co true Ad true Ad) ((v11, v12))) (.p rfl) rfl rfl ⟨rfl, rfl, tv⟩ rfl rfl rfl (CH (Dd _ _ _ _ Be Be) a13) ?_
    refine AX rfl (BW rfl (AB (by kernel_rfl) ?_))
    refine Ap rfl (fun c14 => ?_) (fun c14 => ?_)
    ·have h := Ao c14 h
     obtain rfl := sj h
     refine AA ⟨_, (sm [] [] [(90000, .vec 3 (v1.1.map Ad))] rfl rfl), ?_⟩
     exact ⟨⟨[], tv, rfl⟩, ⟨rfl, tv⟩, tv⟩
    ·have h := An c14 h
     refine Aq (Ab (Aa Ac rfl (qm rfl (qm rfl (qm rfl (AR rfl (qm rfl (qm rfl (qm rfl (AR rfl (qm rfl (qm rfl (qm rfl (AR rfl ?_))))))))))))))
     obtain ⟨v15, a15, b15, h⟩ := Aj h
     refine qI Ba A2 a15 (Ag b15) rfl (qJ Do A2 (Ag b15) rfl (qm rfl (qm rfl (qm rfl (AR rfl ?_)))))
     obtain ⟨v16, a16, b16, h⟩ := Aj h
     refine qI Ba A2 a16 (Ag b16) rfl (qJ Do A2 (Ag b16) rfl ?_)
     obtain ⟨v17, a17, b17, h⟩ := Aj h
     refine qI Ba A2 a17 (Ag b17) rfl ?_
     refine AY rfl rfl rfl rfl (Ag b17) rfl A2 rfl (A6 rfl) (AZ Ad v1.1 _ v15) ?_
     obtain ⟨v18, a18, b18, h⟩ := Aj h
     refine qI Ba A2 a18 (Ag b18) rfl ?_
     refine AY rfl rfl rfl rfl (Ag b18) rfl A2 rfl (A6 rfl) (AZ Ad (v1.1.set (((wI .i64 (p3 + v1.2))).toNat) v15) _ v16) ?_
     refine AB (by kernel_rfl) (Aa Ac rfl (qm rfl (qa rfl (Ae ?_))))
     exact Au _ h (sm [] _ _ rfl rfl)
 ·obtain rfl := sj h
  refine ⟨_, hs.trans (sm [] [] [(90000, .vec 3 (v2.map Ad))] rfl rfl), ?_⟩
  exact ⟨⟨[], tv, rfl⟩, ⟨rfl, tv⟩, tv⟩
theorem GW (N : Nat) (p0 : List Al) (p1 : Int) (p2 : Int) (p3 : (Al × Al) → Option Int) (r : (List Al)) (h : Gs.heapSort N p0 p1 p2 p3 = some r) : Bj Tryz.prog 133 [oD (.own 90000), iD p1, iD p2, oD (.clo (Bb (Co true Ad true Ad) Bi p3))] [(.vec 3 (p0.map Ad), .vec 3 (r.map Ad))] [] (.tup []) := by
 unfold Gs.heapSort at h
 refine A9 (n := 60) (rs := []) Tryz.func133 rfl rfl rfl (A6 rfl) (A6 rfl) rfl rfl (A6 rfl) rfl (A6 rfl) fun w0 S0 GL => JI ?_
 refine Am (sm [] [(0, oD (.own 90000)), (1, iD p1), (2, iD p2), (3, oD (.clo (Bb (Co true Ad true Ad) Bi p3)))] [(90000, .vec 3 (p0.map Ad))] rfl rfl) (Ab (Aa Ac rfl (qm rfl (qa rfl (Ae (Ab (Aa Ac rfl (qa rfl (Ae (Ab (Aa Ac rfl (qm rfl (qm rfl (Bm rfl (qa rfl (Ae (Ab (Ab (Aa Ac rfl (qm rfl (Bm rfl (JA rfl (by decide) (qa rfl (Ae ?_))))))))))))))))))))))))
 refine AE (L := Gs.heapSort_L1 N p1 p2 p3) h (fun v1 => mk [(0, oD (.own 90000)), (3, oD (.clo (Bb (Co true Ad true Ad) Bi p3))), (8, iD p1), (9, iD 0), (10, iD ((wI .i64 (p2 - p1)))), (11, iD v1.2)] [(90000, .vec 3 (v1.1.map Ad))]) (fun v2 => mk [(0, oD (.own 90000)), (3, oD (.clo (Bb (Co true Ad true Ad) Bi p3))), (8, iD p1), (9, iD 0), (10, iD ((wI .i64 (p2 - p1))))] [(90000, .vec 3 (v2.map Ad))]) (fun _ _ => rfl) (sm [] _ _ rfl rfl) (fun j1 n1 v1 h => ?_) (fun v2 s h hs => ?_)
 ·unfold Gs.heapSort_L1 at h
  refine Ab (Ab (Aa Ac rfl (qm rfl (Cz rfl (Ae ?_)))))
  refine Ap rfl (fun c3 => ?_) (fun c3 => ?_)
  ·have h := Ao c3 h
   refine Aq (Ab (AK (Aa Ac rfl (qm rfl (qm rfl (qm rfl (qm rfl (qm rfl ?_))))))))
   obtain ⟨v4, a4, h⟩ := bind_some h
   refine BA (ds0 := [_, _, _, _, _]) [90000] [] [true] (E3 N v1.1 v1.2 ((wI .i64 (p2 - p1))) p1 p3 v4 a4) (.p rfl) XS rfl ⟨rfl, rfl, rfl, rfl, rfl, tv⟩ rfl rfl (by decide) ⟨rfl, tv⟩ rfl (A3 rfl) tv ⟨(fun h => by cases h), tv⟩ rfl rfl rfl ?_
   refine Ae (Aa Ac rfl (qm rfl (Bm rfl (qa rfl (Ae ?_)))))
   exact Au _ h (sm [] _ _ rfl rfl)
  ·have h := An c3 h
   refine AS ?_
   exact Au _ h (sm [] _ _ rfl rfl)
 ·refine Am hs (Ab (Aa Ac rfl (qm rfl (Bm rfl (qa rfl (Ae ?_))))))
  refine AE (L := Gs.heapSort_L5 N p1 p3) h (fun v5 => mk [(0, oD (.own 90000)), (3, oD (.clo (Bb (Co true Ad true Ad) Bi p3))), (8, iD p1), (9, iD 0), (12, iD v5.2)] [(90000, .vec 3 (v5.1.map Ad))]) (fun v6 => mk [] [(90000, .vec 3 (v6.map Ad))]) (fun _ _ => rfl) (sm [] _ _ rfl rfl) (fun j5 n5 v5 h => ?_) (fun v6 s h hs => ?_)
  ·unfold Gs.heapSort_L5 at h
   refine Ab (Ab (Aa Ac rfl (qm rfl (Cz rfl (Ae ?_)))))
   refine Ap rfl (fun c7 => ?_) (fun c7 => ?_)
   ·have h := Ao c7 h
    refine Aq (Ab (AK (Ab (Aa Ac rfl (qm rfl (qm rfl (qm rfl (qm rfl (qm rfl (AR rfl (qm rfl (qm rfl (qm rfl (AR rfl ?_))))))))))))))
    obtain ⟨v8, a8, b8, h⟩ := Aj h
    refine qI Ba A2 a8 (Ag b8) rfl (qJ Do A2 (Ag b8) rfl (qm rfl (qm rfl ?_)))
    obtain ⟨v9, a9, b9, h⟩ := Aj h
    refine qI Ba A2 a9 (Ag b9) rfl (qJ Do A2 (Ag b9) rfl ?_)
    obtain ⟨v10, a10, b10, h⟩ := Aj h
    refine qI Ba A2 a10 (Ag b10) rfl ?_
    refine AY rfl rfl rfl rfl (Ag b10) rfl A2 rfl (A6 rfl) (AZ Ad v5.1 _ v8) ?_
    obtain ⟨v11, a11, b11, h⟩ := Aj h
    refine qI Ba A2 a11 (Ag b11) rfl ?_
    refine AY rfl rfl rfl rfl (Ag b11) rfl A2 rfl (A6 rfl) (AZ Ad (v5.1.set ((p1).toNat) v8) _ v9) ?_
    refine AB (by kernel_rfl) (Aa Ac rfl (qm rfl (qm rfl (qm rfl (qm rfl (qm rfl ?_))))))
    obtain ⟨v12, a12, h⟩ := bind_some h
    refine BA (ds0 := [_, _, _, _, _]) [90000] [] [true] (E3 N ((v5.1.set ((p1).toNat) v8).set (((wI .i64 (p1 + v5.2))).toNat) v9) 0 v5.2 p1 p3 v12 a12) (.p rfl) XS rfl ⟨rfl, rfl, rfl, rfl, rfl, tv⟩ rfl rfl (by decide) ⟨rfl, tv⟩ rfl (A3 rfl) tv ⟨(fun h => by cases h), tv⟩ rfl rfl rfl ?_
    refine Ae (Aa Ac rfl (qm rfl (Bm rfl (qa rfl (Ae ?_)))))
    exact Au _ h (sm [] _ _ rfl rfl)
   ·have h := An c7 h
    refine AS ?_
    exact Au _ h (sm [] _ _ rfl rfl)
  ·obtain rfl := sj h
   refine ⟨_, hs.trans (sm [] [] [(90000, .vec 3 (v6.map Ad))] rfl rfl), ?_⟩
   exact ⟨⟨[], tv, rfl⟩, ⟨rfl, tv⟩, tv⟩
theorem F9 (N : Nat) (p0 : List Al) (p1 : Int) (p2 : Int) (p3 : (Al × Al) → Option Int) (r : (List Al)) (h : Gs.breakPatterns N p0 p1 p2 p3 = some r) : Bj Tryz.prog 134 [oD (.own 90000), iD p1, iD p2, oD (.clo (Bb (Co true Ad true Ad) Bi p3))] [(.vec 3 (p0.map Ad), .vec 3 (r.map Ad))] [] (.tup []) := by
 unfold Gs.breakPatterns at h
 refine A9 (n := 67) (rs := []) Tryz.func134 rfl rfl rfl (A6 rfl) (A6 rfl) rfl rfl (A6 rfl) rfl (A6 rfl) fun w0 S0 GL => JI ?_
 refine Am (sm [] [(0, oD (.own 90000)), (1, iD p1), (2, iD p2), (3, oD (.clo (Bb (Co true Ad true Ad) Bi p3)))] [(90000, .vec 3 (p0.map Ad))] rfl rfl) (Ab (Aa Ac rfl (qm rfl (qm rfl (Bm rfl (qa rfl (Ae (Ab (Aa Ac rfl (qm rfl (Cz rfl (Ae ?_))))))))))))
 refine Ap rfl (fun c1 => ?_) (fun c1 => ?_)
 ·have h := Ao c1 h
  refine Ab (Aa Ac rfl (qm rfl (GY Wr XN rfl (qz XL rfl (qs Rm rfl (Ae (Ab (Aa Ac rfl (qm rfl ?_)))))))))
  obtain ⟨v2, a2, h⟩ := bind_some h
  refine AJ [] (HD N ((wI .i64 (p2 - p1))) v2 a2) XF rfl (qa rfl (Ae (Ab (Aa Ac rfl (qm rfl (qm rfl (JA rfl (by decide) (HJ rfl (AR rfl (Bm rfl (qa rfl (Ae ?_))))))))))))
  refine AE (L := Gs.breakPatterns_L3 N p1 p2 v2) h (fun v3 => mk [(0, oD (.own 90000)), (1, iD p1), (8, iD ((wI .i64 (p2 - p1)))), (9, oD (.ptr 9 0)), (10, pD (.val (.int .u64 v2))), (11, iD v3.2.2)] [(9, .box [.pure (.val (.int .u64 v3.2.1))]), (90000, .vec 3 (v3.1.map Ad))]) (fun v4 => mk [] [(90000, .vec 3 (v4.map Ad))]) (fun _ _ => rfl) (sm [] _ _ rfl rfl) (fun j3 n3 v3 h => ?_) (fun v4 s h hs => ?_)
  ·unfold Gs.breakPatterns_L3 at h
   refine Ab (Ab (Aa Ac rfl (qm rfl (qm rfl (qm rfl (JA rfl (by decide) (HJ rfl (AR rfl (AR rfl (Ig rfl (Ae ?_)))))))))))
   refine Ap rfl (fun c5 => ?_) (fun c5 => ?_)
   ·have h := Ao c5 h
    refine Aq (Ab (AK (Ab (Aa Ac rfl ?_))))
    obtain ⟨v6, a6, h⟩ := bind_some h
    refine BA (ds0 := [_]) [9] [] [true] (Ib N v3.2.1 v6 a6) (.p rfl) XO rfl ⟨rfl, tv⟩ rfl rfl (by decide) ⟨rfl, tv⟩ rfl (A3 rfl) tv ⟨(fun h => by cases h), tv⟩ rfl rfl rfl ?_
    refine qm rfl (Bm rfl (LF rfl (GY N0 Ud rfl (qa rfl (Ae ?_)))))
    refine AO h (fun v7 => mk [(0, oD (.own 90000)), (1, iD p1), (8, iD ((wI .i64 (p2 - p1)))), (9, oD (.ptr 9 0)), (10, pD (.val (.int .u64 v2))), (11, iD v3.2.2), (12, iD v7)] [(9, .box [.pure (.val (.int .u64 v6.2))]), (90000, .vec 3 (v3.1.map Ad))]) (fun j7 h => ?_) (fun v7 h => ?_)
    ·refine Ab (Aa Ac rfl (qm rfl (qm rfl (Cz rfl (Ae ?_)))))
     refine Ap rfl (fun c8 => ?_) (fun c8 => ?_)
     ·have h := Ao c8 h
      refine Aa Ac rfl (qm rfl (qm rfl (Bm rfl (qa rfl (Ae ?_)))))
      exact Au _ h (sm [] _ _ rfl rfl)
     ·have h := An c8 h
      refine Aq ?_
      exact Au _ h (sm [] _ _ rfl rfl)
    ·refine Aa Ac rfl (qm rfl (qm rfl (qm rfl (qm rfl (qm rfl (AR rfl (qm rfl (qm rfl (qm rfl (AR rfl ?_))))))))))
     obtain ⟨v9, a9, b9, h⟩ := Aj h
     refine qI Ba A2 a9 (Ag b9) rfl (qJ Do A2 (Ag b9) rfl (qm rfl (qm rfl ?_)))
     obtain ⟨v10, a10, b10, h⟩ := Aj h
     refine qI Ba A2 a10 (Ag b10) rfl (qJ Do A2 (Ag b10) rfl ?_)
     obtain ⟨v11, a11, b11, h⟩ := Aj h
     refine qI Ba A2 a11 (Ag b11) rfl ?_
     refine AY rfl rfl rfl rfl (Ag b11) rfl A2 rfl (A6 rfl) (AZ Ad v3.1 _ v9) ?_
     obtain ⟨v12, a12, b12, h⟩ := Aj h
     refine qI Ba A2 a12 (Ag b12) rfl ?_
     refine AY rfl rfl rfl rfl (Ag b12) rfl A2 rfl (A6 rfl) (AZ Ad (v3.1.set ((v3.2.2).toNat) v9) _ v10) ?_
     refine AB (by kernel_rfl) (Aa Ac rfl (qm rfl (AR rfl (qa rfl (Ae ?_)))))
     exact Au _ h (sm [] _ _ rfl rfl)
   ·have h := An c5 h
    refine AS ?_
    exact Au _ h (sm [] _ _ rfl rfl)
  ·obtain rfl := sj h
   refine ⟨_, hs.trans (sm [] [] [(90000, .vec 3 (v4.map Ad))] rfl rfl), ?_⟩
   exact ⟨⟨[], tv, rfl⟩, ⟨rfl, tv⟩, tv⟩
 ·have h := An c1 h
  refine Aq ?_
  obtain rfl := sj h
  refine ⟨_, (sm [] [] [(90000, .vec 3 (p0.map Ad))] rfl rfl), ?_⟩
  exact ⟨⟨[], tv, rfl⟩, ⟨rfl, tv⟩, tv⟩
theorem DU (N : Nat) (p0 : List Al) (p1 : Int) (p2 : Int) (p3 : Int) (p4 : (Al × Al) → Option Int) (r : Int × Int × Int) (h : Gs.order2 N p0 p1 p2 p3 p4 = some r) : Bj Tryz.prog 171 [pD (.sl (p0.map Ad)), iD p1, iD p2, oD (.ptr 90000 0), oD (.clo (Bb (Co true Ad true Ad) Bi p4))] [(.box [iC p3], .box [iC r.2.2])] [] (.tup [.one (iC r.1), .one (iC r.2.1)]) := by
 unfold Gs.order2 at h
 refine A9 (n := 32) (rs := [.tmp 10, .tmp 11]) Tryz.func171 rfl rfl rfl (A6 rfl) (A6 rfl) rfl rfl (A6 rfl) rfl (A6 rfl) fun w0 S0 GL => ?_
 refine Am (sm [] [(0, pD (.sl (p0.map Ad))), (1, iD p1), (2, iD p2), (3, oD (.ptr 90000 0)), (4, oD (.clo (Bb (Co true Ad true Ad) Bi p4)))] [(90000, .box [iC p3])] rfl rfl) (Ab (Aa Ac rfl (qa rfl (qa rfl (Ae (Ab (Ab (Aa Ac rfl (qm rfl (qm rfl (qm rfl ?_)))))))))))
 obtain ⟨v1, a1, b1, h⟩ := Aj h
 refine qi Ba A2 a1 (Ag b1) rfl (qK Do A2 rfl (qm rfl (qm rfl ?_)))
 obtain ⟨v2, a2, b2, h⟩ := Aj h
 refine qi Ba A2 a2 (Ag b2) rfl (qK Do A2 rfl ?_)
 obtain ⟨v3, a3, h⟩ := bind_some h
 refine CF (ds0 := [_, _]) (ar := (Co true Ad true Ad) ((v1, v2))) (.p rfl) rfl rfl ⟨rfl, rfl, tv⟩ rfl rfl rfl (CH (Dd _ _ _ _ Be Be) a3) ?_
 refine AX rfl (AB (by kernel_rfl) ?_)
 refine Ap rfl (fun c4 => ?_) (fun c4 => ?_)
 ·have h := Ao c4 h
  refine Ab (Aa Ac rfl (qm rfl (O2 rfl (ql Cm rfl (AR rfl (O2 rfl (qs Du rfl (Ae (Ab (Aa Ac rfl (qm rfl (qm rfl (qa rfl (qa rfl (Ae ?_)))))))))))))))
  obtain rfl := sj h
  refine Am (sm [] [(10, iD p2), (11, iD p1)] [(90000, .box [iC ((wI .i64 (p3 + 1)))])] rfl rfl) (AA ?_)
  exact ⟨⟨[_, _], ⟨.tmp _ _ rfl, ⟨.tmp _ _ rfl, tv⟩⟩, rfl⟩, ⟨rfl, tv⟩, tv⟩
 ·have h := An c4 h
  refine Aq (Ab (Aa Ac rfl (qm rfl (qm rfl (qa rfl (qa rfl (Ae ?_)))))))
  obtain rfl := sj h
  refine Am (sm [] [(10, iD p1), (11, iD p2)] [(90000, .box [iC p3])] rfl rfl) (AA ?_)
  exact ⟨⟨[_, _], ⟨.tmp _ _ rfl, ⟨.tmp _ _ rfl, tv⟩⟩, rfl⟩, ⟨rfl, tv⟩, tv⟩
theorem Ff (N : Nat) (p0 : List Al) (p1 : Int) (p2 : Int) (p3 : Int) (p4 : Int) (p5 : (Al × Al) → Option Int) (r : Int × Int) (h : Gs.median N p0 p1 p2 p3 p4 p5 = some r) : Bj Tryz.prog 165 [pD (.sl (p0.map Ad)), iD p1, iD p2, iD p3, oD (.ptr 90000 0), oD (.clo (Bb (Co true Ad true Ad) Bi p5))] [(.box [iC p4], .box [iC r.2])] [] (iD r.1) := by
 unfold Gs.median at h
 refine A9 (n := 41) (rs := [.tmp 12]) Tryz.func165 rfl rfl rfl (A6 rfl) (A6 rfl) rfl rfl (A6 rfl) rfl (A6 rfl) fun w0 S0 GL => ?_
 refine Am (sm [] [(0, pD (.sl (p0.map Ad))), (1, iD p1), (2, iD p2), (3, iD p3), (4, oD (.ptr 90000 0)), (5, oD (.clo (Bb (Co true Ad true Ad) Bi p5)))] [(90000, .box [iC p4])] rfl rfl) (Ab (Aa Ac rfl (qa rfl (Ae (Ab (Aa Ac rfl (qm rfl (qm rfl (qm rfl (qm rfl (qm rfl ?_)))))))))))
 obtain ⟨v1, a1, h⟩ := bind_some h
 refine BA (ds0 := [_, _, _, _, _]) [90000] [] [true] (DU N p0 p1 p2 p4 p5 v1 a1) (.p rfl) UQ rfl ⟨rfl, rfl, rfl, rfl, rfl, tv⟩ rfl rfl (by decide) ⟨rfl, tv⟩ rfl (A3 rfl) tv ⟨(fun h => by cases h), tv⟩ rfl rfl rfl ?_
 refine qm rfl (qx rfl (qx rfl (qa rfl (qa rfl (Ae (Ab (Aa Ac rfl (qm rfl (qm rfl (qm rfl (qm rfl (qm rfl ?_))))))))))))
 obtain ⟨v2, a2, h⟩ := bind_some h
 refine BA (ds0 := [_, _, _, _, _]) [90000] [] [true] (DU N p0 v1.2.1 p3 v1.2.2 p5 v2 a2) (.p rfl) UQ rfl ⟨rfl, rfl, rfl, rfl, rfl, tv⟩ rfl rfl (by decide) ⟨rfl, tv⟩ rfl (A3 rfl) tv ⟨(fun h => by cases h), tv⟩ rfl rfl rfl ?_
 refine qm rfl (qx rfl (qx rfl (qa rfl (qa rfl (Ae (Ab (Aa Ac rfl (qm rfl (qm rfl (qm rfl (qm rfl (qm rfl ?_))))))))))))
 obtain ⟨v3, a3, h⟩ := bind_some h
 refine BA (ds0 := [_, _, _, _, _]) [90000] [] [true] (DU N p0 v1.1 v2.1 v2.2.2 p5 v3 a3) (.p rfl) UQ rfl ⟨rfl, rfl, rfl, rfl, rfl, tv⟩ rfl rfl (by decide) ⟨rfl, tv⟩ rfl (A3 rfl) tv ⟨(fun h => by cases h), tv⟩ rfl rfl rfl ?_
 refine qm rfl (qx rfl (qx rfl (qa rfl (qa rfl (Ae (Ab (Aa Ac rfl (qm rfl (qa rfl (Ae ?_))))))))))
 obtain rfl := sj h
 refine Am (sm [] [(12, iD v3.2.1)] [(90000, .box [iC v3.2.2])] rfl rfl) (AA ?_)
 exact ⟨⟨[_], ⟨.tmp _ _ rfl, tv⟩, rfl⟩, ⟨rfl, tv⟩, tv⟩
theorem C1 (N : Nat) (p0 : List Al) (p1 : Int) (p2 : Int) (p3 : (Al × Al) → Option Int) (r : Int × Int) (h : Gs.medianAdjacent N p0 p1 p2 p3 = some r) : Bj Tryz.prog 164 [pD (.sl (p0.map Ad)), iD p1, oD (.ptr 90000 0), oD (.clo (Bb (Co true Ad true Ad) Bi p3))] [(.box [iC p2], .box [iC r.2])] [] (iD r.1) := by
 unfold Gs.medianAdjacent at h
 refine A9 (n := 18) (rs := [.tmp 8]) Tryz.func164 rfl rfl rfl (A6 rfl) (A6 rfl) rfl rfl (A6 rfl) rfl (A6 rfl) fun w0 S0 GL => ?_
 refine Am (sm [] [(0, pD (.sl (p0.map Ad))), (1, iD p1), (2, oD (.ptr 90000 0)), (3, oD (.clo (Bb (Co true Ad true Ad) Bi p3)))] [(90000, .box [iC p2])] rfl rfl) (Ab (Aa Ac rfl (qa rfl (Ae (Ab (Aa Ac rfl (qm rfl (qm rfl (Bm rfl (qm rfl (qm rfl (AR rfl (qm rfl (qm rfl ?_))))))))))))))
 obtain ⟨v1, a1, h⟩ := bind_some h
 refine BA (ds0 := [_, _, _, _, _, _]) [90000] [] [true] (Ff N p0 ((wI .i64 (p1 - 1))) p1 ((wI .i64 (p1 + 1))) p2 p3 v1 a1) (.p rfl) X5 rfl ⟨rfl, rfl, rfl, rfl, rfl, rfl, tv⟩ rfl rfl (by decide) ⟨rfl, tv⟩ rfl (A3 rfl) tv ⟨(fun h => by cases h), tv⟩ rfl rfl rfl ?_
 refine qa rfl (Ae ?_)
 obtain rfl := sj h
 refine Am (sm [] [(8, iD v1.1)] [(90000, .box [iC v1.2])] rfl rfl) (AA ?_)
 exact ⟨⟨[_], ⟨.tmp _ _ rfl, tv⟩, rfl⟩, ⟨rfl, tv⟩, tv⟩
theorem Gv (N : Nat) (p0 : List Al) (p1 : Int) (p2 : Int) (p3 : (Al × Al) → Option Int) (r : Int × Int) (h : Gs.choosePivot N p0 p1 p2 p3 = some r) : AD Tryz.prog 135 [pD (.sl (p0.map Ad)), iD p1, iD p2, oD (.clo (Bb (Co true Ad true Ad) Bi p3))] [] (.tup [.one (iC r.1), .one (iC r.2)]) := by
 unfold Gs.choosePivot at h
 refine Av (n := 63) (rs := [.tmp 8, .tmp 9]) Tryz.func135 rfl rfl rfl (A6 rfl) (A6 rfl) rfl fun w0 S0 => ?_
 refine Ab (Aa Ac rfl (qa rfl (qa rfl (Ae (Ab (Aa Ac rfl (qm rfl (qm rfl (Bm rfl (qa rfl (Ae (Ab (Aa Ac rfl (qz KI rfl (Ae (Ab (Aa Ac rfl (qm rfl (qm rfl (JA rfl (by decide) (HJ rfl (AR rfl (qa rfl (Ae (Ab (Aa Ac rfl (qm rfl (qm rfl (JA rfl (by decide) (HJ rfl (AR rfl (qa rfl (Ae (Ab (Aa Ac rfl (qm rfl (qm rfl (JA rfl (by decide) (HJ rfl ?_)))))))))))))))))))))))))))))))))))))))
 refine AR rfl (qa rfl (Ae ?_))
 refine AO h (fun v1 => mk [(11, oD (.ptr 11 0)), (13, iD v1.2)] [(11, .box [iC v1.1])]) (fun j1 h => ?_) (fun v1 h => ?_)
 ·refine Ab (Aa Ac rfl (qm rfl (Cz rfl (Ae ?_))))
  refine Ap rfl (fun c2 => ?_) (fun c2 => ?_)
  ·have h := Ao c2 h
   refine AO h (fun v3 => mk [(0, pD (.sl (p0.map Ad))), (3, oD (.clo (Bb (Co true Ad true Ad) Bi p3))), (11, oD (.ptr 11 0)), (12, iD v3.2.1), (13, iD v3.2.2.1), (14, iD v3.2.2.2)] [(11, .box [iC v3.1])]) (fun j3 h => ?_) (fun v3 h => ?_)
   ·refine Ab (Aa Ac rfl (qm rfl (Cz rfl (Ae ?_))))
    refine Ap rfl (fun c4 => ?_) (fun c4 => ?_)
    ·have h := Ao c4 h
     refine Ab (Aa Ac rfl (qm rfl (qm rfl (qm rfl ?_))))
     obtain ⟨v5, a5, h⟩ := bind_some h
     refine BA (ds0 := [_, _, _, _]) [11] [] [true] (C1 N p0 ((wI .i64 (p1 + (wI .i64 ((wI .i64 (Int.tdiv ((wI .i64 (p2 - p1))) 4)) * 1))))) 0 p3 v5 a5) (.p rfl) UY rfl ⟨rfl, rfl, rfl, rfl, tv⟩ rfl rfl (by decide) ⟨rfl, tv⟩ rfl (A3 rfl) tv ⟨(fun h => by cases h), tv⟩ rfl rfl rfl ?_
     refine qa rfl (Ae (Ab (Aa Ac rfl (qm rfl (qm rfl (qm rfl ?_))))))
     obtain ⟨v6, a6, h⟩ := bind_some h
     refine BA (ds0 := [_, _, _, _]) [11] [] [true] (C1 N p0 ((wI .i64 (p1 + (wI .i64 ((wI .i64 (Int.tdiv ((wI .i64 (p2 - p1))) 4)) * 2))))) v5.2 p3 v6 a6) (.p rfl) UY rfl ⟨rfl, rfl, rfl, rfl, tv⟩ rfl rfl (by decide) ⟨rfl, tv⟩ rfl (A3 rfl) tv ⟨(fun h => by cases h), tv⟩ rfl rfl rfl ?_
     refine qa rfl (Ae (Aa Ac rfl (qm rfl (qm rfl (qm rfl ?_)))))
     obtain ⟨v7, a7, h⟩ := bind_some h
     refine BA (ds0 := [_, _, _, _]) [11] [] [true] (C1 N p0 ((wI .i64 (p1 + (wI .i64 ((wI .i64 (Int.tdiv ((wI .i64 (p2 - p1))) 4)) * 3))))) v6.2 p3 v7 a7) (.p rfl) UY rfl ⟨rfl, rfl, rfl, rfl, tv⟩ rfl rfl (by decide) ⟨rfl, tv⟩ rfl (A3 rfl) tv ⟨(fun h => by cases h), tv⟩ rfl rfl rfl ?_
     refine qa rfl (Ae ?_)
     exact Au _ h (sm [] _ _ rfl rfl)
    ·have h := An c4 h
     refine Aq ?_
     exact Au _ h (sm [] _ _ rfl rfl)
   ·refine Aa Ac rfl (qm rfl (qm rfl (qm rfl (qm rfl (qm rfl ?_)))))
    obtain ⟨v8, a8, h⟩ := bind_some h
    refine BA (ds0 := [_, _, _, _, _, _]) [11] [] [true] (Ff N p0 v3.2.1 v3.2.2.1 v3.2.2.2 v3.1 p3 v8 a8) (.p rfl) X5 rfl ⟨rfl, rfl, rfl, rfl, rfl, rfl, tv⟩ rfl rfl (by decide) ⟨rfl, tv⟩ rfl (A3 rfl) tv ⟨(fun h => by cases h), tv⟩ rfl rfl rfl ?_
    refine qa rfl (Ae ?_)
    exact Au _ h (sm [] _ _ rfl rfl)
  ·have h := An c2 h
   refine Aq ?_
   exact Au _ h (sm [] _ _ rfl rfl)
 ·refine Ab (Aa Ac rfl (ql Cm rfl (Ae (AK (Ab (Aa Ac rfl (BK rfl (qa rfl (Ae ?_)))))))))
  refine Ap rfl (fun c9 => ?_) (fun c9 => ?_)
  ·have h := Ao c9 h
   refine Ab (Aa Ac rfl (qm rfl (qa rfl (qa rfl (Ae ?_)))))
   obtain rfl := sj h
   refine Am (sm [] [(8, iD v1.2), (9, iD 1)] [] rfl rfl) (AA ?_)
   exact ⟨⟨[_, _], ⟨.tmp _ _ rfl, ⟨.tmp _ _ rfl, tv⟩⟩, rfl⟩, tv⟩
  ·have h := An c9 h
   refine Ab (Aa Ac rfl (BK rfl (qa rfl (Ae ?_))))
   refine Ap rfl (fun c10 => ?_) (fun c10 => ?_)
   ·have h := Ao c10 h
    refine Ab (Aa Ac rfl (qm rfl (qa rfl (qa rfl (Ae ?_)))))
    obtain rfl := sj h
    refine Am (sm [] [(8, iD v1.2), (9, iD 2)] [] rfl rfl) (AA ?_)
    exact ⟨⟨[_, _], ⟨.tmp _ _ rfl, ⟨.tmp _ _ rfl, tv⟩⟩, rfl⟩, tv⟩
   ·have h := An c10 h
    refine Ab (Aa Ac rfl (qm rfl (qa rfl (qa rfl (Ae ?_)))))
    obtain rfl := sj h
    refine Am (sm [] [(8, iD v1.2), (9, iD 0)] [] rfl rfl) (AA ?_)
    exact ⟨⟨[_, _], ⟨.tmp _ _ rfl, ⟨.tmp _ _ rfl, tv⟩⟩, rfl⟩, tv⟩
theorem Gj (N : Nat) (p0 : List Al) (p1 : Int) (p2 : Int) (p3 : (Al × Al) → Option Int) (r : (List Al)) (h : Gs.reverseRange N p0 p1 p2 p3 = some r) : Bj Tryz.prog 136 [oD (.own 90000), iD p1, iD p2, oD (.clo (Bb (Co true Ad true Ad) Bi p3))] [(.vec 3 (p0.map Ad), .vec 3 (r.map Ad))] [] (.tup []) := by
 unfold Gs.reverseRange at h
 refine A9 (n := 34) (rs := []) Tryz.func136 rfl rfl rfl (A6 rfl) (A6 rfl) rfl rfl (A6 rfl) rfl (A6 rfl) fun w0 S0 GL => JI ?_
 refine Am (sm [] [(0, oD (.own 90000)), (1, iD p1), (2, iD p2), (3, oD (.clo (Bb (Co true Ad true Ad) Bi p3)))] [(90000, .vec 3 (p0.map Ad))] rfl rfl) (Ab (Aa Ac rfl (qm rfl (qa rfl (Ae (Ab (Aa Ac rfl (qm rfl (Bm rfl (qa rfl (Ae ?_)))))))))))
 refine AE (L := Gs.reverseRange_L1 N) h (fun v1 => mk [(0, oD (.own 90000)), (8, iD v1.2.1), (9, iD v1.2.2)] [(90000, .vec 3 (v1.1.map Ad))]) (fun v2 => mk [] [(90000, .vec 3 (v2.map Ad))]) (fun _ _ => rfl) (sm [] _ _ rfl rfl) (fun j1 n1 v1 h => ?_) (fun v2 s h hs => ?_)
 ·unfold Gs.reverseRange_L1 at h
  refine Ab (Ab (Aa Ac rfl (qm rfl (qm rfl (AX rfl (Ae ?_))))))
  refine Ap rfl (fun c3 => ?_) (fun c3 => ?_)
  ·have h := Ao c3 h
   refine Aq (AK (Ab (Aa Ac rfl (qm rfl (qm rfl (qm rfl (qm rfl (qm rfl (qm rfl ?_)))))))))
   obtain ⟨v4, a4, b4, h⟩ := Aj h
   refine qI Ba A2 a4 (Ag b4) rfl (qJ Do A2 (Ag b4) rfl (qm rfl (qm rfl ?_)))
   obtain ⟨v5, a5, b5, h⟩ := Aj h
   refine qI Ba A2 a5 (Ag b5) rfl (qJ Do A2 (Ag b5) rfl ?_)
   obtain ⟨v6, a6, b6, h⟩ := Aj h
   refine qI Ba A2 a6 (Ag b6) rfl ?_
   refine AY rfl rfl rfl rfl (Ag b6) rfl A2 rfl (A6 rfl) (AZ Ad v1.1 _ v4) ?_
   obtain ⟨v7, a7, b7, h⟩ := Aj h
   refine qI Ba A2 a7 (Ag b7) rfl ?_
   refine AY rfl rfl rfl rfl (Ag b7) rfl A2 rfl (A6 rfl) (AZ Ad (v1.1.set ((v1.2.1).toNat) v4) _ v5) ?_
   refine AB (by kernel_rfl) (Ab (Aa Ac rfl (qm rfl (AR rfl (qa rfl (Ae (Aa Ac rfl (qm rfl (Bm rfl (qa rfl (Ae ?_)))))))))))
   exact Au _ h (sm [] _ _ rfl rfl)
  ·have h := An c3 h
   refine AS ?_
   exact Au _ h (sm [] _ _ rfl rfl)
 ·obtain rfl := sj h
  refine ⟨_, hs.trans (sm [] [] [(90000, .vec 3 (v2.map Ad))] rfl rfl), ?_⟩
  exact ⟨⟨[], tv, rfl⟩, ⟨rfl, tv⟩, tv⟩
theorem Ft (N : Nat) (p0 : List Al) (p1 : Int) (p2 : Int) (p3 : (Al × Al) → Option Int) (r : Bool × (List Al)) (h : Gs.partialInsertionSort N p0 p1 p2 p3 = some r) : Bj Tryz.prog 137 [oD (.own 90000), iD p1, iD p2, oD (.clo (Bb (Co true Ad true Ad) Bi p3))] [(.vec 3 (p0.map Ad), .vec 3 (r.2.map Ad))] [] (bD r.1) := by
 unfold Gs.partialInsertionSort at h
 refine A9 (n := 141) (rs := [.tmp 8]) Tryz.func137 rfl rfl rfl (A6 rfl) (A6 rfl) rfl rfl (A6 rfl) rfl (A6 rfl) fun w0 S0 GL => ?_
 refine Am (sm [] [(0, oD (.own 90000)), (1, iD p1), (2, iD p2), (3, oD (.clo (Bb (Co true Ad true Ad) Bi p3)))] [(90000, .vec 3 (p0.map Ad))] rfl rfl) (Ab (Aa Ac rfl (qa rfl (Ae (Ab (Aa Ac rfl (qm rfl (AR rfl (qa rfl (Ae (Ab (Ab (Aa Ac rfl (qa rfl (Ae ?_)))))))))))))))
 refine AE (L := Gs.partialInsertionSort_L1 N p1 p2 p3) h (fun v1 => mk [(0, oD (.own 90000)), (1, iD p1), (2, iD p2), (3, oD (.clo (Bb (Co true Ad true Ad) Bi p3))), (9, iD v1.2.1), (10, iD v1.2.2)] [(90000, .vec 3 (v1.1.map Ad))]) (fun v2 => mk [] [(90000, .vec 3 (v2.map Ad))]) (fun _ _ => rfl) (sm [] _ _ rfl rfl) (fun j1 n1 v1 h => ?_) (fun v2 s h hs => ?_)
 ·unfold Gs.partialInsertionSort_L1 at h
  refine Ab (Ab (Aa Ac rfl (qm rfl (AX rfl (Ae ?_)))))
  refine Ap rfl (fun c3 => ?_) (fun c3 => ?_)
  ·have h := Ao c3 h
   refine Aq ?_
   refine AO h (fun v4 => mk [(0, oD (.own 90000)), (1, iD p1), (2, iD p2), (3, oD (.clo (Bb (Co true Ad true Ad) Bi p3))), (9, iD v4.2), (10, iD v1.2.2)] [(90000, .vec 3 (v4.1.map Ad))]) (fun j4 h => ?_) (fun v4 h => ?_)
   ·refine AK (Ab ?_)
    refine AE (L := Gs.partialInsertionSort_L5 N p2 p3 v1) h (fun v5 => mk [(0, oD (.own 90000)), (1, iD p1), (2, iD p2), (3, oD (.clo (Bb (Co true Ad true Ad) Bi p3))), (9, iD v5), (10, iD v1.2.2)] [(90000, .vec 3 (v1.1.map Ad))]) (fun v6 => mk [(0, oD (.own 90000)), (1, iD p1), (2, iD p2), (3, oD (.clo (Bb (Co true Ad true Ad) Bi p3))), (9, iD v6), (10, iD v1.2.2)] [(90000, .vec 3 (v1.1.map Ad))]) (fun _ _ => rfl) (sm [] _ _ rfl rfl) (fun j5 n5 v5 h => ?_) (fun v6 s h hs => ?_)
    ·unfold Gs.partialInsertionSort_L5 at h
     refine Ab ?_
     refine AO h (fun v7 => mk [(0, oD (.own 90000)), (1, iD p1), (2, iD p2), (3, oD (.clo (Bb (Co true Ad true Ad) Bi p3))), (9, iD v5), (10, iD v1.2.2), (36, bD v7)] [(90000, .vec 3 (v1.1.map Ad))]) (fun j7 h => ?_) (fun v7 h => ?_)
     ·refine Aa Ac rfl (qm rfl (qm rfl (AX rfl (qm rfl ?_))))
      refine AF (t := 22) rfl (fun c8 => ?_) (fun c8 => ?_)
      ·have h := Ao c8 h
       refine qm rfl (qm rfl (qm rfl ?_))
       obtain ⟨v9, a9, b9, h⟩ := Aj h
       refine qI Ba A2 a9 (Ag b9) rfl (qJ Do A2 (Ag b9) rfl (qm rfl (qm rfl (Bm rfl ?_))))
       obtain ⟨v10, a10, b10, h⟩ := Aj h
       refine qI Ba A2 a10 (Ag b10) rfl (qJ Do A2 (Ag b10) rfl ?_)
       obtain ⟨v11, a11, h⟩ := bind_some h
       refine CF (ds0 := [_, _]) (ar := (Co true Ad true Ad) ((v9, v10))) (.g rfl rfl) rfl rfl ⟨rfl, rfl, tv⟩ rfl rfl rfl (CH (Dd _ _ _ _ Be Be) a11) ?_
       refine AX rfl (BW rfl (qp rfl (AB (by kernel_rfl) ?_)))
       exact Au _ h (sm [] _ _ rfl rfl)
      ·have h := An c8 h
       refine qn rfl (qn rfl (qn rfl (qn rfl (qn rfl (qn rfl (qn rfl (qn rfl (qn rfl (qn rfl (qn rfl (qn rfl (qn rfl (qp rfl (AB (by kernel_rfl) ?_))))))))))))))
       exact Au _ h (sm [] _ _ rfl rfl)
     ·refine Ap rfl (fun c12 => ?_) (fun c12 => ?_)
      ·have h := Ao c12 h
       refine Aq (AK (Aa Ac rfl (qm rfl (AR rfl (qa rfl (Ae ?_))))))
       exact Au _ h (sm [] _ _ rfl rfl)
      ·have h := An c12 h
       refine AS ?_
       exact Au _ h (sm [] _ _ rfl rfl)
    ·refine Am hs (Ab (Ab (Aa Ac rfl (qm rfl (qm rfl (BK rfl (Ae ?_)))))))
     refine Ap rfl (fun c13 => ?_) (fun c13 => ?_)
     ·have h := Ao c13 h
      refine Ab (Aa Ac rfl (qa rfl (Ae ?_)))
      obtain rfl := sj h
      refine Am (sm [] [(8, bD true)] [(90000, .vec 3 (v1.1.map Ad))] rfl rfl) (AA ?_)
      exact ⟨⟨[_], ⟨.tmp _ _ rfl, tv⟩, rfl⟩, ⟨rfl, tv⟩, tv⟩
     ·have h := An c13 h
      refine Aq (Ab (Ab (Aa Ac rfl (qm rfl (qm rfl (Bm rfl (AX rfl (Ae ?_))))))))
      refine Ap rfl (fun c14 => ?_) (fun c14 => ?_)
      ·have h := Ao c14 h
       refine Ab (Aa Ac rfl (qa rfl (Ae ?_)))
       obtain rfl := sj h
       refine Am (sm [] [(8, bD false)] [(90000, .vec 3 (v1.1.map Ad))] rfl rfl) (AA ?_)
       exact ⟨⟨[_], ⟨.tmp _ _ rfl, tv⟩, rfl⟩, ⟨rfl, tv⟩, tv⟩
      ·have h := An c14 h
       refine Aq (Ab (Aa Ac rfl (qm rfl (qm rfl (qm rfl (qm rfl (Bm rfl (qm rfl (qm rfl (Bm rfl ?_))))))))))
       obtain ⟨v15, a15, b15, h⟩ := Aj h
       refine qI Ba A2 a15 (Ag b15) rfl (qJ Do A2 (Ag b15) rfl (qm rfl (qm rfl ?_)))
       obtain ⟨v16, a16, b16, h⟩ := Aj h
       refine qI Ba A2 a16 (Ag b16) rfl (qJ Do A2 (Ag b16) rfl ?_)
       obtain ⟨v17, a17, b17, h⟩ := Aj h
       refine qI Ba A2 a17 (Ag b17) rfl ?_
       refine AY rfl rfl rfl rfl (Ag b17) rfl A2 rfl (A6 rfl) (AZ Ad v1.1 _ v15) ?_
       obtain ⟨v18, a18, b18, h⟩ := Aj h
       refine qI Ba A2 a18 (Ag b18) rfl ?_
       refine AY rfl rfl rfl rfl (Ag b18) rfl A2 rfl (A6 rfl) (AZ Ad (v1.1.set ((v6).toNat) v15) _ v16) ?_
       refine AB (by kernel_rfl) ?_
       refine AO h (fun v19 => mk [(0, oD (.own 90000)), (1, iD p1), (2, iD p2), (3, oD (.clo (Bb (Co true Ad true Ad) Bi p3))), (9, iD v6), (10, iD v1.2.2)] [(90000, .vec 3 (v19.map Ad))]) (fun j19 h => ?_) (fun v19 h => ?_)
       ·refine Ab (Aa Ac rfl (qm rfl (qm rfl (Bm rfl (Cz rfl (Ae ?_))))))
        refine Ap rfl (fun c20 => ?_) (fun c20 => ?_)
        ·have h := Ao c20 h
         refine Ab (Aa Ac rfl (qm rfl (Bm rfl (qa rfl (Ae ?_)))))
         refine AE (L := Gs.partialInsertionSort_L21 N p3) h (fun v21 => mk [(0, oD (.own 90000)), (1, iD p1), (2, iD p2), (3, oD (.clo (Bb (Co true Ad true Ad) Bi p3))), (9, iD v6), (10, iD v1.2.2), (11, iD v21.2)] [(90000, .vec 3 (v21.1.map Ad))]) (fun v22 => mk [(0, oD (.own 90000)), (1, iD p1), (2, iD p2), (3, oD (.clo (Bb (Co true Ad true Ad) Bi p3))), (9, iD v6), (10, iD v1.2.2)] [(90000, .vec 3 (v22.map Ad))]) (fun _ _ => rfl) (sm [] _ _ rfl rfl) (fun j21 n21 v21 h => ?_) (fun v22 s h hs => ?_)
         ·unfold Gs.partialInsertionSort_L21 at h
          refine Ab (Ab (Aa Ac rfl (qm rfl (Cz rfl (Ae ?_)))))
          refine Ap rfl (fun c23 => ?_) (fun c23 => ?_)
          ·have h := Ao c23 h
           refine Aq (Ab (AK (Ab (Ab (Aa Ac rfl (qm rfl (qm rfl (qm rfl ?_))))))))
           obtain ⟨v24, a24, b24, h⟩ := Aj h
           refine qI Ba A2 a24 (Ag b24) rfl (qJ Do A2 (Ag b24) rfl (qm rfl (qm rfl (Bm rfl ?_))))
           obtain ⟨v25, a25, b25, h⟩ := Aj h
           refine qI Ba A2 a25 (Ag b25) rfl (qJ Do A2 (Ag b25) rfl ?_)
           obtain ⟨v26, a26, h⟩ := bind_some h
           refine CF (ds0 := [_, _]) (ar := (Co true Ad true Ad) ((v24, v25))) (.p rfl) rfl rfl ⟨rfl, rfl, tv⟩ rfl rfl rfl (CH (Dd _ _ _ _ Be Be) a26) ?_
           refine AX rfl (BW rfl (AB (by kernel_rfl) ?_))
           refine Ap rfl (fun c27 => ?_) (fun c27 => ?_)
           ·have h := Ao c27 h
            refine AS ?_
            exact Au _ h (sm [] _ _ rfl rfl)
           ·have h := An c27 h
            refine Aq (Aa Ac rfl (qm rfl (qm rfl (qm rfl (qm rfl (Bm rfl (qm rfl (qm rfl (Bm rfl ?_)))))))))
            obtain ⟨v28, a28, b28, h⟩ := Aj h
            refine qI Ba A2 a28 (Ag b28) rfl (qJ Do A2 (Ag b28) rfl (qm rfl (qm rfl ?_)))
            obtain ⟨v29, a29, b29, h⟩ := Aj h
            refine qI Ba A2 a29 (Ag b29) rfl (qJ Do A2 (Ag b29) rfl ?_)
            obtain ⟨v30, a30, b30, h⟩ := Aj h
            refine qI Ba A2 a30 (Ag b30) rfl ?_
            refine AY rfl rfl rfl rfl (Ag b30) rfl A2 rfl (A6 rfl) (AZ Ad v21.1 _ v28) ?_
            obtain ⟨v31, a31, b31, h⟩ := Aj h
            refine qI Ba A2 a31 (Ag b31) rfl ?_
            refine AY rfl rfl rfl rfl (Ag b31) rfl A2 rfl (A6 rfl) (AZ Ad (v21.1.set ((v21.2).toNat) v28) _ v29) ?_
            refine AB (by kernel_rfl) (Aa Ac rfl (qm rfl (Bm rfl (qa rfl (Ae ?_)))))
            exact Au _ h (sm [] _ _ rfl rfl)
          ·have h := An c23 h
           refine AS ?_
           exact Au _ h (sm [] _ _ rfl rfl)
         ·exact Au _ h (hs.trans (sm [] _ _ rfl rfl))
        ·have h := An c20 h
         refine Aq ?_
         exact Au _ h (sm [] _ _ rfl rfl)
       ·refine Ab (Aa Ac rfl (qm rfl (qm rfl (Bm rfl (Cz rfl (Ae ?_))))))
        refine Ap rfl (fun c32 => ?_) (fun c32 => ?_)
        ·have h := Ao c32 h
         refine Ab (Aa Ac rfl (qm rfl (AR rfl (qa rfl (Ae ?_)))))
         refine AE (L := Gs.partialInsertionSort_L33 N p2 p3) h (fun v33 => mk [(0, oD (.own 90000)), (1, iD p1), (2, iD p2), (3, oD (.clo (Bb (Co true Ad true Ad) Bi p3))), (9, iD v6), (10, iD v1.2.2), (12, iD v33.2)] [(90000, .vec 3 (v33.1.map Ad))]) (fun v34 => mk [(0, oD (.own 90000)), (1, iD p1), (2, iD p2), (3, oD (.clo (Bb (Co true Ad true Ad) Bi p3))), (9, iD v6), (10, iD v1.2.2)] [(90000, .vec 3 (v34.map Ad))]) (fun _ _ => rfl) (sm [] _ _ rfl rfl) (fun j33 n33 v33 h => ?_) (fun v34 s h hs => ?_)
         ·unfold Gs.partialInsertionSort_L33 at h
          refine Ab (Ab (Aa Ac rfl (qm rfl (qm rfl (AX rfl (Ae ?_))))))
          refine Ap rfl (fun c35 => ?_) (fun c35 => ?_)
          ·have h := Ao c35 h
           refine Aq (Ab (AK (Ab (Ab (Aa Ac rfl (qm rfl (qm rfl (qm rfl ?_))))))))
           obtain ⟨v36, a36, b36, h⟩ := Aj h
           refine qI Ba A2 a36 (Ag b36) rfl (qJ Do A2 (Ag b36) rfl (qm rfl (qm rfl (Bm rfl ?_))))
           obtain ⟨v37, a37, b37, h⟩ := Aj h
           refine qI Ba A2 a37 (Ag b37) rfl (qJ Do A2 (Ag b37) rfl ?_)
           obtain ⟨v38, a38, h⟩ := bind_some h
           refine CF (ds0 := [_, _]) (ar := (Co true Ad true Ad) ((v36, v37))) (.p rfl) rfl rfl ⟨rfl, rfl, tv⟩ rfl rfl rfl (CH (Dd _ _ _ _ Be Be) a38) ?_
           refine AX rfl (BW rfl (AB (by kernel_rfl) ?_))
           refine Ap rfl (fun c39 => ?_) (fun c39 => ?_)
           ·have h := Ao c39 h
            refine AS ?_
            exact Au _ h (sm [] _ _ rfl rfl)
           ·have h := An c39 h
            refine Aq (Aa Ac rfl (qm rfl (qm rfl (qm rfl (qm rfl (Bm rfl (qm rfl (qm rfl (Bm rfl ?_)))))))))
            obtain ⟨v40, a40, b40, h⟩ := Aj h
            refine qI Ba A2 a40 (Ag b40) rfl (qJ Do A2 (Ag b40) rfl (qm rfl (qm rfl ?_)))
            obtain ⟨v41, a41, b41, h⟩ := Aj h
            refine qI Ba A2 a41 (Ag b41) rfl (qJ Do A2 (Ag b41) rfl ?_)
            obtain ⟨v42, a42, b42, h⟩ := Aj h
            refine qI Ba A2 a42 (Ag b42) rfl ?_
            refine AY rfl rfl rfl rfl (Ag b42) rfl A2 rfl (A6 rfl) (AZ Ad v33.1 _ v40) ?_
            obtain ⟨v43, a43, b43, h⟩ := Aj h
            refine qI Ba A2 a43 (Ag b43) rfl ?_
            refine AY rfl rfl rfl rfl (Ag b43) rfl A2 rfl (A6 rfl) (AZ Ad (v33.1.set ((v33.2).toNat) v40) _ v41) ?_
            refine AB (by kernel_rfl) (Aa Ac rfl (qm rfl (AR rfl (qa rfl (Ae ?_)))))
            exact Au _ h (sm [] _ _ rfl rfl)
          ·have h := An c35 h
           refine AS ?_
           exact Au _ h (sm [] _ _ rfl rfl)
         ·exact Au _ h (hs.trans (sm [] _ _ rfl rfl))
        ·have h := An c32 h
         refine Aq ?_
         exact Au _ h (sm [] _ _ rfl rfl)
   ·refine Aa Ac rfl (qm rfl (AR rfl (qa rfl (Ae ?_))))
    exact Au _ h (sm [] _ _ rfl rfl)
  ·have h := An c3 h
   refine AS ?_
   exact Au _ h (sm [] _ _ rfl rfl)
 ·refine Am hs (Ab (Aa Ac rfl (qa rfl (Ae ?_))))
  obtain rfl := sj h
  refine Am (sm [] [(8, bD false)] [(90000, .vec 3 (v2.map Ad))] rfl rfl) (AA ?_)
  exact ⟨⟨[_], ⟨.tmp _ _ rfl, tv⟩, rfl⟩, ⟨rfl, tv⟩, tv⟩
theorem F4 (N : Nat) (p0 : List Al) (p1 : Int) (p2 : Int) (p3 : Int) (p4 : (Al × Al) → Option Int) (r : Int × (List Al)) (h : Gs.partitionEqual N p0 p1 p2 p3 p4 = some r) : Bj Tryz.prog 138 [oD (.own 90000), iD p1, iD p2, iD p3, oD (.clo (Bb (Co true Ad true Ad) Bi p4))] [(.vec 3 (p0.map Ad), .vec 3 (r.2.map Ad))] [] (iD r.1) := by
 unfold Gs.partitionEqual at h
 refine A9 (n := 90) (rs := [.tmp 10]) Tryz.func138 rfl rfl rfl (A6 rfl) (A6 rfl) rfl rfl (A6 rfl) rfl (A6 rfl) fun w0 S0 GL => ?_
 refine Am (sm [] [(0, oD (.own 90000)), (1, iD p1), (2, iD p2), (3, iD p3), (4, oD (.clo (Bb (Co true Ad true Ad) Bi p4)))] [(90000, .vec 3 (p0.map Ad))] rfl rfl) (Ab (Aa Ac rfl (qa rfl (Ae (Ab (Aa Ac rfl (qm rfl (qm rfl (qm rfl (qm rfl (qm rfl (qm rfl ?_))))))))))))
 obtain ⟨v1, a1, b1, h⟩ := Aj h
 refine qI Ba A2 a1 (Ag b1) rfl (qJ Do A2 (Ag b1) rfl (qm rfl (qm rfl ?_)))
 obtain ⟨v2, a2, b2, h⟩ := Aj h
 refine qI Ba A2 a2 (Ag b2) rfl (qJ Do A2 (Ag b2) rfl ?_)
 obtain ⟨v3, a3, b3, h⟩ := Aj h
 refine qI Ba A2 a3 (Ag b3) rfl ?_
 refine AY rfl rfl rfl rfl (Ag b3) rfl A2 rfl (A6 rfl) (AZ Ad p0 _ v1) ?_
 obtain ⟨v4, a4, b4, h⟩ := Aj h
 refine qI Ba A2 a4 (Ag b4) rfl ?_
 refine AY rfl rfl rfl rfl (Ag b4) rfl A2 rfl (A6 rfl) (AZ Ad (p0.set ((p1).toNat) v1) _ v2) ?_
 refine AB (by kernel_rfl) (Ab (Aa Ac rfl (qm rfl (AR rfl (qm rfl (Bm rfl (qa rfl (qa rfl (Ae (Ab ?_))))))))))
 refine AE (L := Gs.partitionEqual_L5 N p1 p4) h (fun v5 => mk [(0, oD (.own 90000)), (1, iD p1), (4, oD (.clo (Bb (Co true Ad true Ad) Bi p4))), (11, iD v5.2.1), (12, iD v5.2.2)] [(90000, .vec 3 (v5.1.map Ad))]) (fun v6 => mk [(11, iD v6.2)] [(90000, .vec 3 (v6.1.map Ad))]) (fun _ _ => rfl) (sm [] _ _ rfl rfl) (fun j5 n5 v5 h => ?_) (fun v6 s h hs => ?_)
 ·unfold Gs.partitionEqual_L5 at h
  refine AK (Ab ?_)
  refine AE (L := Gs.partitionEqual_L7 N p1 p4 v5) h (fun v7 => mk [(0, oD (.own 90000)), (1, iD p1), (4, oD (.clo (Bb (Co true Ad true Ad) Bi p4))), (11, iD v7), (12, iD v5.2.2)] [(90000, .vec 3 (v5.1.map Ad))]) (fun v8 => mk [(0, oD (.own 90000)), (1, iD p1), (4, oD (.clo (Bb (Co true Ad true Ad) Bi p4))), (11, iD v8), (12, iD v5.2.2)] [(90000, .vec 3 (v5.1.map Ad))]) (fun _ _ => rfl) (sm [] _ _ rfl rfl) (fun j7 n7 v7 h => ?_) (fun v8 s h hs => ?_)
  ·unfold Gs.partitionEqual_L7 at h
   refine Ab ?_
   refine AO h (fun v9 => mk [(0, oD (.own 90000)), (1, iD p1), (4, oD (.clo (Bb (Co true Ad true Ad) Bi p4))), (11, iD v7), (12, iD v5.2.2), (47, bD v9)] [(90000, .vec 3 (v5.1.map Ad))]) (fun j9 h => ?_) (fun v9 h => ?_)
   ·refine Aa Ac rfl (qm rfl (qm rfl (Ig rfl (qm rfl ?_))))
    refine AF (t := 34) rfl (fun c10 => ?_) (fun c10 => ?_)
    ·have h := Ao c10 h
     refine qm rfl (qm rfl (qm rfl ?_))
     obtain ⟨v11, a11, b11, h⟩ := Aj h
     refine qI Ba A2 a11 (Ag b11) rfl (qJ Do A2 (Ag b11) rfl (qm rfl (qm rfl ?_)))
     obtain ⟨v12, a12, b12, h⟩ := Aj h
     refine qI Ba A2 a12 (Ag b12) rfl (qJ Do A2 (Ag b12) rfl ?_)
     obtain ⟨v13, a13, h⟩ := bind_some h
     refine CF (ds0 := [_, _]) (ar := (Co true Ad true Ad) ((v11, v12))) (.g rfl rfl) rfl rfl ⟨rfl, rfl, tv⟩ rfl rfl rfl (CH (Dd _ _ _ _ Be Be) a13) ?_
     refine AX rfl (BW rfl (qp rfl (AB (by kernel_rfl) ?_)))
     exact Au _ h (sm [] _ _ rfl rfl)
    ·have h := An c10 h
     refine qn rfl (qn rfl (qn rfl (qn rfl (qn rfl (qn rfl (qn rfl (qn rfl (qn rfl (qn rfl (qn rfl (qn rfl (qp rfl (AB (by kernel_rfl) ?_)))))))))))))
     exact Au _ h (sm [] _ _ rfl rfl)
   ·refine Ap rfl (fun c14 => ?_) (fun c14 => ?_)
    ·have h := Ao c14 h
     refine Aq (AK (Aa Ac rfl (qm rfl (AR rfl (qa rfl (Ae ?_))))))
     exact Au _ h (sm [] _ _ rfl rfl)
    ·have h := An c14 h
     refine AS ?_
     exact Au _ h (sm [] _ _ rfl rfl)
  ·refine Am hs (Ab ?_)
   refine AE (L := Gs.partitionEqual_L15 N p1 p4 v5 v8) h (fun v15 => mk [(0, oD (.own 90000)), (1, iD p1), (4, oD (.clo (Bb (Co true Ad true Ad) Bi p4))), (11, iD v8), (12, iD v15)] [(90000, .vec 3 (v5.1.map Ad))]) (fun v16 => mk [(0, oD (.own 90000)), (1, iD p1), (4, oD (.clo (Bb (Co true Ad true Ad) Bi p4))), (11, iD v8), (12, iD v16)] [(90000, .vec 3 (v5.1.map Ad))]) (fun _ _ => rfl) (sm [] _ _ rfl rfl) (fun j15 n15 v15 h => ?_) (fun v16 s h hs => ?_)
   ·unfold Gs.partitionEqual_L15 at h
    refine Ab ?_
    refine AO h (fun v17 => mk [(0, oD (.own 90000)), (1, iD p1), (4, oD (.clo (Bb (Co true Ad true Ad) Bi p4))), (11, iD v8), (12, iD v15), (65, bD v17)] [(90000, .vec 3 (v5.1.map Ad))]) (fun j17 h => ?_) (fun v17 h => ?_)
    ·refine Aa Ac rfl (qm rfl (qm rfl (Ig rfl (qm rfl ?_))))
     refine AF (t := 53) rfl (fun c18 => ?_) (fun c18 => ?_)
     ·have h := Ao c18 h
      refine qm rfl (qm rfl (qm rfl ?_))
      obtain ⟨v19, a19, b19, h⟩ := Aj h
      refine qI Ba A2 a19 (Ag b19) rfl (qJ Do A2 (Ag b19) rfl (qm rfl (qm rfl ?_)))
      obtain ⟨v20, a20, b20, h⟩ := Aj h
      refine qI Ba A2 a20 (Ag b20) rfl (qJ Do A2 (Ag b20) rfl ?_)
      obtain ⟨v21, a21, h⟩ := bind_some h
      refine CF (ds0 := [_, _]) (ar := (Co true Ad true Ad) ((v19, v20))) (.g rfl rfl) rfl rfl ⟨rfl, rfl, tv⟩ rfl rfl rfl (CH (Dd _ _ _ _ Be Be) a21) ?_
      refine AX rfl (qp rfl (AB (by kernel_rfl) ?_))
      exact Au _ h (sm [] _ _ rfl rfl)
     ·have h := An c18 h
      refine qn rfl (qn rfl (qn rfl (qn rfl (qn rfl (qn rfl (qn rfl (qn rfl (qn rfl (qn rfl (qn rfl (qp rfl (AB (by kernel_rfl) ?_))))))))))))
      exact Au _ h (sm [] _ _ rfl rfl)
    ·refine Ap rfl (fun c22 => ?_) (fun c22 => ?_)
     ·have h := Ao c22 h
      refine Aq (AK (Aa Ac rfl (qm rfl (Bm rfl (qa rfl (Ae ?_))))))
      exact Au _ h (sm [] _ _ rfl rfl)
     ·have h := An c22 h
      refine AS ?_
      exact Au _ h (sm [] _ _ rfl rfl)
   ·refine Am hs (Ab (Ab (Aa Ac rfl (qm rfl (qm rfl (E2 rfl (Ae ?_)))))))
    refine Ap rfl (fun c23 => ?_) (fun c23 => ?_)
    ·have h := Ao c23 h
     refine AS ?_
     exact Au _ h (sm [] _ _ rfl rfl)
    ·have h := An c23 h
     refine Aq (Ab (Aa Ac rfl (qm rfl (qm rfl (qm rfl (qm rfl (qm rfl (qm rfl ?_))))))))
     obtain ⟨v24, a24, b24, h⟩ := Aj h
     refine qI Ba A2 a24 (Ag b24) rfl (qJ Do A2 (Ag b24) rfl (qm rfl (qm rfl ?_)))
     obtain ⟨v25, a25, b25, h⟩ := Aj h
     refine qI Ba A2 a25 (Ag b25) rfl (qJ Do A2 (Ag b25) rfl ?_)
     obtain ⟨v26, a26, b26, h⟩ := Aj h
     refine qI Ba A2 a26 (Ag b26) rfl ?_
     refine AY rfl rfl rfl rfl (Ag b26) rfl A2 rfl (A6 rfl) (AZ Ad v5.1 _ v24) ?_
     obtain ⟨v27, a27, b27, h⟩ := Aj h
     refine qI Ba A2 a27 (Ag b27) rfl ?_
     refine AY rfl rfl rfl rfl (Ag b27) rfl A2 rfl (A6 rfl) (AZ Ad (v5.1.set ((v8).toNat) v24) _ v25) ?_
     refine AB (by kernel_rfl) (Ab (Aa Ac rfl (qm rfl (AR rfl (qa rfl (Ae (Aa Ac rfl (qm rfl (Bm rfl (qa rfl (Ae ?_)))))))))))
     exact Au _ h (sm [] _ _ rfl rfl)
 ·refine Am hs (Ab (Aa Ac rfl (qm rfl (qa rfl (Ae ?_)))))
  obtain rfl := sj h
  refine Am (sm [] [(10, iD v6.2)] [(90000, .vec 3 (v6.1.map Ad))] rfl rfl) (AA ?_)
  exact ⟨⟨[_], ⟨.tmp _ _ rfl, tv⟩, rfl⟩, ⟨rfl, tv⟩, tv⟩
theorem GO (N : Nat) (p0 : List Al) (p1 : Int) (p2 : Int) (p3 : Int) (p4 : (Al × Al) → Option Int) (r : Int × Bool × (List Al)) (h : Gs.partition N p0 p1 p2 p3 p4 = some r) : Bj Tryz.prog 139 [oD (.own 90000), iD p1, iD p2, iD p3, oD (.clo (Bb (Co true Ad true Ad) Bi p4))] [(.vec 3 (p0.map Ad), .vec 3 (r.2.2.map Ad))] [] (.tup [.one (iC r.1), .one (.pure (.val (.bool r.2.1)))]) := by
 unfold Gs.partition at h
 refine A9 (n := 178) (rs := [.tmp 10, .tmp 11]) Tryz.func139 rfl rfl rfl (A6 rfl) (A6 rfl) rfl rfl (A6 rfl) rfl (A6 rfl) fun w0 S0 GL => ?_
 refine Am (sm [] [(0, oD (.own 90000)), (1, iD p1), (2, iD p2), (3, iD p3), (4, oD (.clo (Bb (Co true Ad true Ad) Bi p4)))] [(90000, .vec 3 (p0.map Ad))] rfl rfl) (Ab (Aa Ac rfl (qa rfl (qa rfl (Ae (Ab (Aa Ac rfl (qm rfl (qm rfl (qm rfl (qm rfl (qm rfl (qm rfl ?_)))))))))))))
 obtain ⟨v1, a1, b1, h⟩ := Aj h
 refine qI Ba A2 a1 (Ag b1) rfl (qJ Do A2 (Ag b1) rfl (qm rfl (qm rfl ?_)))
 obtain ⟨v2, a2, b2, h⟩ := Aj h
 refine qI Ba A2 a2 (Ag b2) rfl (qJ Do A2 (Ag b2) rfl ?_)
 obtain ⟨v3, a3, b3, h⟩ := Aj h
 refine qI Ba A2 a3 (Ag b3) rfl ?_
 refine AY rfl rfl rfl rfl (Ag b3) rfl A2 rfl (A6 rfl) (AZ Ad p0 _ v1) ?_
 obtain ⟨v4, a4, b4, h⟩ := Aj h
 refine qI Ba A2 a4 (Ag b4) rfl ?_
 refine AY rfl rfl rfl rfl (Ag b4) rfl A2 rfl (A6 rfl) (AZ Ad (p0.set ((p1).toNat) v1) _ v2) ?_
 refine AB (by kernel_rfl) (Ab (Aa Ac rfl (qm rfl (AR rfl (qm rfl (Bm rfl (qa rfl (qa rfl (Ae (Ab ?_))))))))))
 refine AE (L := Gs.partition_L5 N p0 p1 p2 p3 p4 v1 v2) h (fun v5 => mk [(0, oD (.own 90000)), (1, iD p1), (4, oD (.clo (Bb (Co true Ad true Ad) Bi p4))), (12, iD v5), (13, iD ((wI .i64 (p2 - 1))))] [(90000, .vec 3 (((p0.set ((p1).toNat) v1).set ((p3).toNat) v2).map Ad))]) (fun v6 => mk [(0, oD (.own 90000)), (1, iD p1), (4, oD (.clo (Bb (Co true Ad true Ad) Bi p4))), (12, iD v6), (13, iD ((wI .i64 (p2 - 1))))] [(90000, .vec 3 (((p0.set ((p1).toNat) v1).set ((p3).toNat) v2).map Ad))]) (fun _ _ => rfl) (sm [] _ _ rfl rfl) (fun j5 n5 v5 h => ?_) (fun v6 s h hs => ?_)
 ·unfold Gs.partition_L5 at h
  refine Ab ?_
  refine AO h (fun v7 => mk [(0, oD (.own 90000)), (1, iD p1), (4, oD (.clo (Bb (Co true Ad true Ad) Bi p4))), (12, iD v5), (13, iD ((wI .i64 (p2 - 1)))), (47, bD v7)] [(90000, .vec 3 (((p0.set ((p1).toNat) v1).set ((p3).toNat) v2).map Ad))]) (fun j7 h => ?_) (fun v7 h => ?_)
  ·refine Aa Ac rfl (qm rfl (qm rfl (Ig rfl (qm rfl ?_))))
   refine AF (t := 35) rfl (fun c8 => ?_) (fun c8 => ?_)
   ·have h := Ao c8 h
    refine qm rfl (qm rfl (qm rfl ?_))
    obtain ⟨v9, a9, b9, h⟩ := Aj h
    refine qI Ba A2 a9 (Ag b9) rfl (qJ Do A2 (Ag b9) rfl (qm rfl (qm rfl ?_)))
    obtain ⟨v10, a10, b10, h⟩ := Aj h
    refine qI Ba A2 a10 (Ag b10) rfl (qJ Do A2 (Ag b10) rfl ?_)
    obtain ⟨v11, a11, h⟩ := bind_some h
    refine CF (ds0 := [_, _]) (ar := (Co true Ad true Ad) ((v9, v10))) (.g rfl rfl) rfl rfl ⟨rfl, rfl, tv⟩ rfl rfl rfl (CH (Dd _ _ _ _ Be Be) a11) ?_
    refine AX rfl (qp rfl (AB (by kernel_rfl) ?_))
    exact Au _ h (sm [] _ _ rfl rfl)
   ·have h := An c8 h
    refine qn rfl (qn rfl (qn rfl (qn rfl (qn rfl (qn rfl (qn rfl (qn rfl (qn rfl (qn rfl (qn rfl (qp rfl (AB (by kernel_rfl) ?_))))))))))))
    exact Au _ h (sm [] _ _ rfl rfl)
  ·refine Ap rfl (fun c12 => ?_) (fun c12 => ?_)
   ·have h := Ao c12 h
    refine Aq (AK (Aa Ac rfl (qm rfl (AR rfl (qa rfl (Ae ?_))))))
    exact Au _ h (sm [] _ _ rfl rfl)
   ·have h := An c12 h
    refine AS ?_
    exact Au _ h (sm [] _ _ rfl rfl)
 ·refine Am hs (Ab ?_)
  refine AE (L := Gs.partition_L13 N p0 p1 p3 p4 v1 v2 v6) h (fun v13 => mk [(0, oD (.own 90000)), (1, iD p1), (4, oD (.clo (Bb (Co true Ad true Ad) Bi p4))), (12, iD v6), (13, iD v13)] [(90000, .vec 3 (((p0.set ((p1).toNat) v1).set ((p3).toNat) v2).map Ad))]) (fun v14 => mk [(0, oD (.own 90000)), (1, iD p1), (4, oD (.clo (Bb (Co true Ad true Ad) Bi p4))), (12, iD v6), (13, iD v14)] [(90000, .vec 3 (((p0.set ((p1).toNat) v1).set ((p3).toNat) v2).map Ad))]) (fun _ _ => rfl) (sm [] _ _ rfl rfl) (fun j13 n13 v13 h => ?_) (fun v14 s h hs => ?_)
  ·unfold Gs.partition_L13 at h
   refine Ab ?_
   refine AO h (fun v15 => mk [(0, oD (.own 90000)), (1, iD p1), (4, oD (.clo (Bb (Co true Ad true Ad) Bi p4))), (12, iD v6), (13, iD v13), (66, bD v15)] [(90000, .vec 3 (((p0.set ((p1).toNat) v1).set ((p3).toNat) v2).map Ad))]) (fun j15 h => ?_) (fun v15 h => ?_)
   ·refine Aa Ac rfl (qm rfl (qm rfl (Ig rfl (qm rfl ?_))))
    refine AF (t := 53) rfl (fun c16 => ?_) (fun c16 => ?_)
    ·have h := Ao c16 h
     refine qm rfl (qm rfl (qm rfl ?_))
     obtain ⟨v17, a17, b17, h⟩ := Aj h
     refine qI Ba A2 a17 (Ag b17) rfl (qJ Do A2 (Ag b17) rfl (qm rfl (qm rfl ?_)))
     obtain ⟨v18, a18, b18, h⟩ := Aj h
     refine qI Ba A2 a18 (Ag b18) rfl (qJ Do A2 (Ag b18) rfl ?_)
     obtain ⟨v19, a19, h⟩ := bind_some h
     refine CF (ds0 := [_, _]) (ar := (Co true Ad true Ad) ((v17, v18))) (.g rfl rfl) rfl rfl ⟨rfl, rfl, tv⟩ rfl rfl rfl (CH (Dd _ _ _ _ Be Be) a19) ?_
     refine AX rfl (BW rfl (qp rfl (AB (by kernel_rfl) ?_)))
     exact Au _ h (sm [] _ _ rfl rfl)
    ·have h := An c16 h
     refine qn rfl (qn rfl (qn rfl (qn rfl (qn rfl (qn rfl (qn rfl (qn rfl (qn rfl (qn rfl (qn rfl (qn rfl (qp rfl (AB (by kernel_rfl) ?_)))))))))))))
     exact Au _ h (sm [] _ _ rfl rfl)
   ·refine Ap rfl (fun c20 => ?_) (fun c20 => ?_)
    ·have h := Ao c20 h
     refine Aq (AK (Aa Ac rfl (qm rfl (Bm rfl (qa rfl (Ae ?_))))))
     exact Au _ h (sm [] _ _ rfl rfl)
    ·have h := An c20 h
     refine AS ?_
     exact Au _ h (sm [] _ _ rfl rfl)
  ·refine Am hs (Ab (Ab (Aa Ac rfl (qm rfl (qm rfl (E2 rfl (Ae ?_)))))))
   refine Ap rfl (fun c21 => ?_) (fun c21 => ?_)
   ·have h := Ao c21 h
    refine Ab (Aa Ac rfl (qm rfl (qm rfl (qm rfl (qm rfl (qm rfl (qm rfl ?_)))))))
    obtain ⟨v22, a22, b22, h⟩ := Aj h
    refine qI Ba A2 a22 (Ag b22) rfl (qJ Do A2 (Ag b22) rfl (qm rfl (qm rfl ?_)))
    obtain ⟨v23, a23, b23, h⟩ := Aj h
    refine qI Ba A2 a23 (Ag b23) rfl (qJ Do A2 (Ag b23) rfl ?_)
    obtain ⟨v24, a24, b24, h⟩ := Aj h
    refine qI Ba A2 a24 (Ag b24) rfl ?_
    refine AY rfl rfl rfl rfl (Ag b24) rfl A2 rfl (A6 rfl) (AZ Ad ((p0.set ((p1).toNat) v1).set ((p3).toNat) v2) _ v22) ?_
    obtain ⟨v25, a25, b25, h⟩ := Aj h
    refine qI Ba A2 a25 (Ag b25) rfl ?_
    refine AY rfl rfl rfl rfl (Ag b25) rfl A2 rfl (A6 rfl) (AZ Ad (((p0.set ((p1).toNat) v1).set ((p3).toNat) v2).set ((v14).toNat) v22) _ v23) ?_
    refine AB (by kernel_rfl) (Ab (Aa Ac rfl (qm rfl (qa rfl (qa rfl (Ae ?_))))))
    obtain rfl := sj h
    refine Am (sm [] [(10, iD v14), (11, bD true)] [(90000, .vec 3 (((((p0.set ((p1).toNat) v1).set ((p3).toNat) v2).set ((v14).toNat) v22).set ((p1).toNat) v23).map Ad))] rfl rfl) (AA ?_)
    exact ⟨⟨[_, _], ⟨.tmp _ _ rfl, ⟨.tmp _ _ rfl, tv⟩⟩, rfl⟩, ⟨rfl, tv⟩, tv⟩
   ·have h := An c21 h
    refine Aq (Ab (Aa Ac rfl (qm rfl (qm rfl (qm rfl (qm rfl (qm rfl (qm rfl ?_))))))))
    obtain ⟨v26, a26, b26, h⟩ := Aj h
    refine qI Ba A2 a26 (Ag b26) rfl (qJ Do A2 (Ag b26) rfl (qm rfl (qm rfl ?_)))
    obtain ⟨v27, a27, b27, h⟩ := Aj h
    refine qI Ba A2 a27 (Ag b27) rfl (qJ Do A2 (Ag b27) rfl ?_)
    obtain ⟨v28, a28, b28, h⟩ := Aj h
    refine qI Ba A2 a28 (Ag b28) rfl ?_
    refine AY rfl rfl rfl rfl (Ag b28) rfl A2 rfl (A6 rfl) (AZ Ad ((p0.set ((p1).toNat) v1).set ((p3).toNat) v2) _ v26) ?_
    obtain ⟨v29, a29, b29, h⟩ := Aj h
    refine qI Ba A2 a29 (Ag b29) rfl ?_
    refine AY rfl rfl rfl rfl (Ag b29) rfl A2 rfl (A6 rfl) (AZ Ad (((p0.set ((p1).toNat) v1).set ((p3).toNat) v2).set ((v6).toNat) v26) _ v27) ?_
    refine AB (by kernel_rfl) (Ab (Aa Ac rfl (qm rfl (AR rfl (qa rfl (Ae (Ab (Aa Ac rfl (qm rfl (Bm rfl (qa rfl (Ae (Ab ?_)))))))))))))
    refine AE (L := Gs.partition_L30 N p1 p4) h (fun v30 => mk [(0, oD (.own 90000)), (1, iD p1), (4, oD (.clo (Bb (Co true Ad true Ad) Bi p4))), (12, iD v30.2.1), (13, iD v30.2.2)] [(90000, .vec 3 (v30.1.map Ad))]) (fun v31 => mk [(0, oD (.own 90000)), (1, iD p1), (13, iD v31.2)] [(90000, .vec 3 (v31.1.map Ad))]) (fun _ _ => rfl) (sm [] _ _ rfl rfl) (fun j30 n30 v30 h => ?_) (fun v31 s h hs => ?_)
    ·unfold Gs.partition_L30 at h
     refine AK (Ab ?_)
     refine AE (L := Gs.partition_L32 N p1 p4 v30) h (fun v32 => mk [(0, oD (.own 90000)), (1, iD p1), (4, oD (.clo (Bb (Co true Ad true Ad) Bi p4))), (12, iD v32), (13, iD v30.2.2)] [(90000, .vec 3 (v30.1.map Ad))]) (fun v33 => mk [(0, oD (.own 90000)), (1, iD p1), (4, oD (.clo (Bb (Co true Ad true Ad) Bi p4))), (12, iD v33), (13, iD v30.2.2)] [(90000, .vec 3 (v30.1.map Ad))]) (fun _ _ => rfl) (sm [] _ _ rfl rfl) (fun j32 n32 v32 h => ?_) (fun v33 s h hs => ?_)
     ·unfold Gs.partition_L32 at h
      refine Ab ?_
      refine AO h (fun v34 => mk [(0, oD (.own 90000)), (1, iD p1), (4, oD (.clo (Bb (Co true Ad true Ad) Bi p4))), (12, iD v32), (13, iD v30.2.2), (120, bD v34)] [(90000, .vec 3 (v30.1.map Ad))]) (fun j34 h => ?_) (fun v34 h => ?_)
      ·refine Aa Ac rfl (qm rfl (qm rfl (Ig rfl (qm rfl ?_))))
       refine AF (t := 108) rfl (fun c35 => ?_) (fun c35 => ?_)
       ·have h := Ao c35 h
        refine qm rfl (qm rfl (qm rfl ?_))
        obtain ⟨v36, a36, b36, h⟩ := Aj h
        refine qI Ba A2 a36 (Ag b36) rfl (qJ Do A2 (Ag b36) rfl (qm rfl (qm rfl ?_)))
        obtain ⟨v37, a37, b37, h⟩ := Aj h
        refine qI Ba A2 a37 (Ag b37) rfl (qJ Do A2 (Ag b37) rfl ?_)
        obtain ⟨v38, a38, h⟩ := bind_some h
        refine CF (ds0 := [_, _]) (ar := (Co true Ad true Ad) ((v36, v37))) (.g rfl rfl) rfl rfl ⟨rfl, rfl, tv⟩ rfl rfl rfl (CH (Dd _ _ _ _ Be Be) a38) ?_
        refine AX rfl (qp rfl (AB (by kernel_rfl) ?_))
        exact Au _ h (sm [] _ _ rfl rfl)
       ·have h := An c35 h
        refine qn rfl (qn rfl (qn rfl (qn rfl (qn rfl (qn rfl (qn rfl (qn rfl (qn rfl (qn rfl (qn rfl (qp rfl (AB (by kernel_rfl) ?_))))))))))))
        exact Au _ h (sm [] _ _ rfl rfl)
      ·refine Ap rfl (fun c39 => ?_) (fun c39 => ?_)
       ·have h := Ao c39 h
        refine Aq (AK (Aa Ac rfl (qm rfl (AR rfl (qa rfl (Ae ?_))))))
        exact Au _ h (sm [] _ _ rfl rfl)
       ·have h := An c39 h
        refine AS ?_
        exact Au _ h (sm [] _ _ rfl rfl)
     ·refine Am hs (Ab ?_)
      refine AE (L := Gs.partition_L40 N p1 p4 v30 v33) h (fun v40 => mk [(0, oD (.own 90000)), (1, iD p1), (4, oD (.clo (Bb (Co true Ad true Ad) Bi p4))), (12, iD v33), (13, iD v40)] [(90000, .vec 3 (v30.1.map Ad))]) (fun v41 => mk [(0, oD (.own 90000)), (1, iD p1), (4, oD (.clo (Bb (Co true Ad true Ad) Bi p4))), (12, iD v33), (13, iD v41)] [(90000, .vec 3 (v30.1.map Ad))]) (fun _ _ => rfl) (sm [] _ _ rfl rfl) (fun j40 n40 v40 h => ?_) (fun v41 s h hs => ?_)
      ·unfold Gs.partition_L40 at h
       refine Ab ?_
       refine AO h (fun v42 => mk [(0, oD (.own 90000)), (1, iD p1), (4, oD (.clo (Bb (Co true Ad true Ad) Bi p4))), (12, iD v33), (13, iD v40), (139, bD v42)] [(90000, .vec 3 (v30.1.map Ad))]) (fun j42 h => ?_) (fun v42 h => ?_)
       ·refine Aa Ac rfl (qm rfl (qm rfl (Ig rfl (qm rfl ?_))))
        refine AF (t := 126) rfl (fun c43 => ?_) (fun c43 => ?_)
        ·have h := Ao c43 h
         refine qm rfl (qm rfl (qm rfl ?_))
         obtain ⟨v44, a44, b44, h⟩ := Aj h
         refine qI Ba A2 a44 (Ag b44) rfl (qJ Do A2 (Ag b44) rfl (qm rfl (qm rfl ?_)))
         obtain ⟨v45, a45, b45, h⟩ := Aj h
         refine qI Ba A2 a45 (Ag b45) rfl (qJ Do A2 (Ag b45) rfl ?_)
         obtain ⟨v46, a46, h⟩ := bind_some h
         refine CF (ds0 := [_, _]) (ar := (Co true Ad true Ad) ((v44, v45))) (.g rfl rfl) rfl rfl ⟨rfl, rfl, tv⟩ rfl rfl rfl (CH (Dd _ _ _ _ Be Be) a46) ?_
         refine AX rfl (BW rfl (qp rfl (AB (by kernel_rfl) ?_)))
         exact Au _ h (sm [] _ _ rfl rfl)
        ·have h := An c43 h
         refine qn rfl (qn rfl (qn rfl (qn rfl (qn rfl (qn rfl (qn rfl (qn rfl (qn rfl (qn rfl (qn rfl (qn rfl (qp rfl (AB (by kernel_rfl) ?_)))))))))))))
         exact Au _ h (sm [] _ _ rfl rfl)
       ·refine Ap rfl (fun c47 => ?_) (fun c47 => ?_)
        ·have h := Ao c47 h
         refine Aq (AK (Aa Ac rfl (qm rfl (Bm rfl (qa rfl (Ae ?_))))))
         exact Au _ h (sm [] _ _ rfl rfl)
        ·have h := An c47 h
         refine AS ?_
         exact Au _ h (sm [] _ _ rfl rfl)
      ·refine Am hs (Ab (Ab (Aa Ac rfl (qm rfl (qm rfl (E2 rfl (Ae ?_)))))))
       refine Ap rfl (fun c48 => ?_) (fun c48 => ?_)
       ·have h := Ao c48 h
        refine AS ?_
        exact Au _ h (sm [] _ _ rfl rfl)
       ·have h := An c48 h
        refine Aq (Ab (Aa Ac rfl (qm rfl (qm rfl (qm rfl (qm rfl (qm rfl (qm rfl ?_))))))))
        obtain ⟨v49, a49, b49, h⟩ := Aj h
        refine qI Ba A2 a49 (Ag b49) rfl (qJ Do A2 (Ag b49) rfl (qm rfl (qm rfl ?_)))
        obtain ⟨v50, a50, b50, h⟩ := Aj h
        refine qI Ba A2 a50 (Ag b50) rfl (qJ Do A2 (Ag b50) rfl ?_)
        obtain ⟨v51, a51, b51, h⟩ := Aj h
        refine qI Ba A2 a51 (Ag b51) rfl ?_
        refine AY rfl rfl rfl rfl (Ag b51) rfl A2 rfl (A6 rfl) (AZ Ad v30.1 _ v49) ?_
        obtain ⟨v52, a52, b52, h⟩ := Aj h
        refine qI Ba A2 a52 (Ag b52) rfl ?_
        refine AY rfl rfl rfl rfl (Ag b52) rfl A2 rfl (A6 rfl) (AZ Ad (v30.1.set ((v33).toNat) v49) _ v50) ?_
        refine AB (by kernel_rfl) (Ab (Aa Ac rfl (qm rfl (AR rfl (qa rfl (Ae (Aa Ac rfl (qm rfl (Bm rfl (qa rfl (Ae ?_)))))))))))
        exact Au _ h (sm [] _ _ rfl rfl)
    ·refine Am hs (Ab (Aa Ac rfl (qm rfl (qm rfl (qm rfl (qm rfl (qm rfl (qm rfl ?_))))))))
     obtain ⟨v53, a53, b53, h⟩ := Aj h
     refine qI Ba A2 a53 (Ag b53) rfl (qJ Do A2 (Ag b53) rfl (qm rfl (qm rfl ?_)))
     obtain ⟨v54, a54, b54, h⟩ := Aj h
     refine qI Ba A2 a54 (Ag b54) rfl (qJ Do A2 (Ag b54) rfl ?_)
     obtain ⟨v55, a55, b55, h⟩ := Aj h
     refine qI Ba A2 a55 (Ag b55) rfl ?_
     refine AY rfl rfl rfl rfl (Ag b55) rfl A2 rfl (A6 rfl) (AZ Ad v31.1 _ v53) ?_
     obtain ⟨v56, a56, b56, h⟩ := Aj h
     refine qI Ba A2 a56 (Ag b56) rfl ?_
     refine AY rfl rfl rfl rfl (Ag b56) rfl A2 rfl (A6 rfl) (AZ Ad (v31.1.set ((v31.2).toNat) v53) _ v54) ?_
     refine AB (by kernel_rfl) (Ab (Aa Ac rfl (qm rfl (qa rfl (qa rfl (Ae ?_))))))
     obtain rfl := sj h
     refine Am (sm [] [(10, iD v31.2), (11, bD false)] [(90000, .vec 3 (((v31.1.set ((v31.2).toNat) v53).set ((p1).toNat) v54).map Ad))] rfl rfl) (AA ?_)
     exact ⟨⟨[_, _], ⟨.tmp _ _ rfl, ⟨.tmp _ _ rfl, tv⟩⟩, rfl⟩, ⟨rfl, tv⟩, tv⟩
theorem GP (N : Nat) (rc : (List Al) → Int → Int → Int → ((Al × Al) → Option Int) → Option ((List Al))) (hrc : ∀ (p0 : List Al) (p1 : Int) (p2 : Int) (p3 : Int) (p4 : (Al × Al) → Option Int) (r : (List Al)), rc p0 p1 p2 p3 p4 = some r → Bj Tryz.prog 104 [oD (.own 90000), iD p1, iD p2, iD p3, oD (.clo (Bb (Co true Ad true Ad) Bi p4))] [(.vec 3 (p0.map Ad), .vec 3 (r.map Ad))] [] (.tup [])) (p0 : List Al) (p1 : Int) (p2 : Int) (p3 : Int) (p4 : (Al × Al) → Option Int) (r : (List Al)) (h : Gs.pdqsort_B N rc p0 p1 p2 p3 p4 = some r) : Bj Tryz.prog 104 [oD (.own 90000), iD p1, iD p2, iD p3, oD (.clo (Bb (Co true Ad true Ad) Bi p4))] [(.vec 3 (p0.map Ad), .vec 3 (r.map Ad))] [] (.tup []) := by
 unfold Gs.pdqsort_B at h
 refine A9 (n := 148) (rs := []) Tryz.func104 rfl rfl rfl (A6 rfl) (A6 rfl) rfl rfl (A6 rfl) rfl (A6 rfl) fun w0 S0 GL => JI ?_
 refine Am (sm [] [(0, oD (.own 90000)), (1, iD p1), (2, iD p2), (3, iD p3), (4, oD (.clo (Bb (Co true Ad true Ad) Bi p4)))] [(90000, .vec 3 (p0.map Ad))] rfl rfl) (Ab (Aa Ac rfl (qa rfl (Ae (Ab (Aa Ac rfl (qa rfl (Ae ?_))))))))
 refine AE (L := Gs.pdqsort_L1 N p4 rc) h (fun v1 => mk [(0, oD (.own 90000)), (1, iD v1.2.1), (2, iD v1.2.2.1), (3, iD v1.2.2.2.1), (4, oD (.clo (Bb (Co true Ad true Ad) Bi p4))), (10, bD v1.2.2.2.2.1), (11, bD v1.2.2.2.2.2)] [(90000, .vec 3 (v1.1.map Ad))]) (fun v2 => mk [] []) (fun _ _ => rfl) (sm [] _ _ rfl rfl) (fun j1 n1 v1 h => ?_) (fun v2 s h hs => ?_)
 ·unfold Gs.pdqsort_L1 at h
  refine AK (Ab (Aa Ac rfl (qm rfl (qm rfl (Bm rfl (qa rfl (Ae (Ab (Ab (Aa Ac rfl (qm rfl (Ig rfl (Ae ?_)))))))))))))
  refine Ap rfl (fun c3 => ?_) (fun c3 => ?_)
  ·have h := Ao c3 h
   refine Ab (Aa Ac rfl (qm rfl (qm rfl (qm rfl (qm rfl ?_)))))
   obtain ⟨v4, a4, h⟩ := bind_some h
   refine BA (ds0 := [_, _, _, _]) [90000] [] [true] (Ga N v1.1 v1.2.1 v1.2.2.1 p4 v4 a4) (.p rfl) ZP rfl ⟨rfl, rfl, rfl, rfl, tv⟩ rfl rfl (by decide) ⟨rfl, tv⟩ rfl (A3 rfl) tv ⟨(fun h => by cases h), tv⟩ rfl rfl rfl ?_
   refine Ae ?_
   obtain rfl := sj h
   refine AA ⟨_, (sm [] [] [(90000, .vec 3 (v4.map Ad))] rfl rfl), ?_⟩
   exact ⟨⟨[], tv, rfl⟩, ⟨rfl, tv⟩, tv⟩
  ·have h := An c3 h
   refine Aq (Ab (Ab (Aa Ac rfl (qm rfl (BK rfl (Ae ?_))))))
   refine Ap rfl (fun c5 => ?_) (fun c5 => ?_)
   ·have h := Ao c5 h
    refine Ab (Aa Ac rfl (qm rfl (qm rfl (qm rfl (qm rfl ?_)))))
    obtain ⟨v6, a6, h⟩ := bind_some h
    refine BA (ds0 := [_, _, _, _]) [90000] [] [true] (GW N v1.1 v1.2.1 v1.2.2.1 p4 v6 a6) (.p rfl) Y1 rfl ⟨rfl, rfl, rfl, rfl, tv⟩ rfl rfl (by decide) ⟨rfl, tv⟩ rfl (A3 rfl) tv ⟨(fun h => by cases h), tv⟩ rfl rfl rfl ?_
    refine Ae ?_
    obtain rfl := sj h
    refine AA ⟨_, (sm [] [] [(90000, .vec 3 (v6.map Ad))] rfl rfl), ?_⟩
    exact ⟨⟨[], tv, rfl⟩, ⟨rfl, tv⟩, tv⟩
   ·have h := An c5 h
    refine Aq ?_
    refine AO h (fun v7 => mk [(0, oD (.own 90000)), (1, iD v1.2.1), (2, iD v1.2.2.1), (3, iD v7.2), (4, oD (.clo (Bb (Co true Ad true Ad) Bi p4))), (10, bD v1.2.2.2.2.1), (11, bD v1.2.2.2.2.2), (12, iD ((wI .i64 (v1.2.2.1 - v1.2.1))))] [(90000, .vec 3 (v7.1.map Ad))]) (fun j7 h => ?_) (fun v7 h => ?_)
    ·refine Ab (Aa Ac rfl (qm rfl (BW rfl (Ae ?_))))
     refine Ap rfl (fun c8 => ?_) (fun c8 => ?_)
     ·have h := Ao c8 h
      refine Ab (Aa Ac rfl (qm rfl (qm rfl (qm rfl (qm rfl ?_)))))
      obtain ⟨v9, a9, h⟩ := bind_some h
      refine BA (ds0 := [_, _, _, _]) [90000] [] [true] (F9 N v1.1 v1.2.1 v1.2.2.1 p4 v9 a9) (.p rfl) ay rfl ⟨rfl, rfl, rfl, rfl, tv⟩ rfl rfl (by decide) ⟨rfl, tv⟩ rfl (A3 rfl) tv ⟨(fun h => by cases h), tv⟩ rfl rfl rfl ?_
      refine Ae (Aa Ac rfl (qm rfl (Bm rfl (qa rfl (Ae ?_)))))
      exact Au _ h (sm [] _ _ rfl rfl)
     ·have h := An c8 h
      refine Aq ?_
      exact Au _ h (sm [] _ _ rfl rfl)
    ·refine Ab (Aa Ac rfl (qm rfl (qm rfl (qm rfl (qm rfl ?_)))))
     obtain ⟨v10, a10, h⟩ := bind_some h
     refine Dj [] [90000] (Gv N v7.1 v1.2.1 v1.2.2.1 p4 v10 a10) ZW B4 rfl (qm rfl (qx rfl (qx rfl (qa rfl (qa rfl (Ae ?_))))))
     refine AO h (fun v11 => mk [(0, oD (.own 90000)), (1, iD v1.2.1), (2, iD v1.2.2.1), (3, iD v7.2), (4, oD (.clo (Bb (Co true Ad true Ad) Bi p4))), (10, bD v1.2.2.2.2.1), (11, bD v1.2.2.2.2.2), (12, iD ((wI .i64 (v1.2.2.1 - v1.2.1)))), (13, iD v11.2.1), (14, iD v11.2.2)] [(90000, .vec 3 (v11.1.map Ad))]) (fun j11 h => ?_) (fun v11 h => ?_)
     ·refine Ab (Aa Ac rfl (qm rfl (BK rfl (Ae ?_))))
      refine Ap rfl (fun c12 => ?_) (fun c12 => ?_)
      ·have h := Ao c12 h
       refine Ab (Aa Ac rfl (qm rfl (qm rfl (qm rfl (qm rfl ?_)))))
       obtain ⟨v13, a13, h⟩ := bind_some h
       refine BA (ds0 := [_, _, _, _]) [90000] [] [true] (Gj N v7.1 v1.2.1 v1.2.2.1 p4 v13 a13) (.p rfl) ao rfl ⟨rfl, rfl, rfl, rfl, tv⟩ rfl rfl (by decide) ⟨rfl, tv⟩ rfl (A3 rfl) tv ⟨(fun h => by cases h), tv⟩ rfl rfl rfl ?_
       refine Ae (Ab (Aa Ac rfl (qm rfl (Bm rfl (qm rfl (qm rfl (Bm rfl (Bm rfl (qa rfl (Ae (Aa Ac rfl (qa rfl (Ae ?_)))))))))))))
       exact Au _ h (sm [] _ _ rfl rfl)
      ·have h := An c12 h
       refine Aq ?_
       exact Au _ h (sm [] _ _ rfl rfl)
     ·refine AO h (fun v14 => mk [(0, oD (.own 90000)), (1, iD v1.2.1), (2, iD v1.2.2.1), (3, iD v7.2), (4, oD (.clo (Bb (Co true Ad true Ad) Bi p4))), (10, bD v1.2.2.2.2.1), (11, bD v1.2.2.2.2.2), (12, iD ((wI .i64 (v1.2.2.1 - v1.2.1)))), (13, iD v11.2.1)] [(90000, .vec 3 (v14.map Ad))]) (fun j14 h => ?_) (fun v14 h => ?_)
      ·refine AO h (fun v15 => mk [(0, oD (.own 90000)), (1, iD v1.2.1), (2, iD v1.2.2.1), (3, iD v7.2), (4, oD (.clo (Bb (Co true Ad true Ad) Bi p4))), (10, bD v1.2.2.2.2.1), (11, bD v1.2.2.2.2.2), (12, iD ((wI .i64 (v1.2.2.1 - v1.2.1)))), (13, iD v11.2.1), (75, bD v15)] [(90000, .vec 3 (v11.1.map Ad))]) (fun j15 h => ?_) (fun v15 h => ?_)
       ·refine Aa Ac rfl (qm rfl (qm rfl ?_))
        refine AF (t := 69) rfl (fun c16 => ?_) (fun c16 => ?_)
        ·have h := Ao c16 h
         refine qm rfl (qp rfl (qm rfl ?_))
         refine AF (t := 72) rfl (fun c17 => ?_) (fun c17 => ?_)
         ·have h := Ao c17 h
          refine qm rfl (BK rfl (qp rfl (Ae ?_)))
          exact Au _ h (sm [] _ _ rfl rfl)
         ·have h := An c17 h
          refine qn rfl (qn rfl (qp rfl (Ae ?_)))
          exact Au _ h (sm [] _ _ rfl rfl)
        ·have h := An c16 h
         refine qn rfl (qp rfl (qm rfl (qn rfl (qn rfl (qp rfl (Ae ?_))))))
         exact Au _ h (sm [] _ _ rfl rfl)
       ·refine Ap rfl (fun c18 => ?_) (fun c18 => ?_)
        ·have h := Ao c18 h
         refine Ab (Aa Ac rfl (qm rfl (qm rfl (qm rfl (qm rfl ?_)))))
         obtain ⟨v19, a19, h⟩ := bind_some h
         refine BA (ds0 := [_, _, _, _]) [90000] [] [true] (Ft N v11.1 v1.2.1 v1.2.2.1 p4 v19 a19) (.p rfl) Zz rfl ⟨rfl, rfl, rfl, rfl, tv⟩ rfl rfl (by decide) ⟨rfl, tv⟩ rfl (A3 rfl) tv ⟨(fun h => by cases h), tv⟩ rfl rfl rfl ?_
         refine Ae ?_
         refine Ap rfl (fun c20 => ?_) (fun c20 => ?_)
         ·have h := Ao c20 h
          obtain rfl := sj h
          refine AA ⟨_, (sm [] [] [(90000, .vec 3 (v19.2.map Ad))] rfl rfl), ?_⟩
          exact ⟨⟨[], tv, rfl⟩, ⟨rfl, tv⟩, tv⟩
         ·have h := An c20 h
          refine Aq ?_
          exact Au _ h (sm [] _ _ rfl rfl)
        ·have h := An c18 h
         refine Aq ?_
         exact Au _ h (sm [] _ _ rfl rfl)
      ·refine Ab ?_
       refine AO h (fun v21 => mk [(0, oD (.own 90000)), (1, iD v1.2.1), (2, iD v1.2.2.1), (3, iD v7.2), (4, oD (.clo (Bb (Co true Ad true Ad) Bi p4))), (10, bD v1.2.2.2.2.1), (11, bD v1.2.2.2.2.2), (12, iD ((wI .i64 (v1.2.2.1 - v1.2.1)))), (13, iD v11.2.1), (97, bD v21)] [(90000, .vec 3 (v14.map Ad))]) (fun j21 h => ?_) (fun v21 h => ?_)
       ·refine Aa Ac rfl (qm rfl (E2 rfl (qm rfl ?_)))
        refine AF (t := 83) rfl (fun c22 => ?_) (fun c22 => ?_)
        ·have h := Ao c22 h
         refine qm rfl (qm rfl (qm rfl (Bm rfl ?_)))
         obtain ⟨v23, a23, b23, h⟩ := Aj h
         refine qI Ba A2 a23 (Ag b23) rfl (qJ Do A2 (Ag b23) rfl (qm rfl (qm rfl ?_)))
         obtain ⟨v24, a24, b24, h⟩ := Aj h
         refine qI Ba A2 a24 (Ag b24) rfl (qJ Do A2 (Ag b24) rfl ?_)
         obtain ⟨v25, a25, h⟩ := bind_some h
         refine CF (ds0 := [_, _]) (ar := (Co true Ad true Ad) ((v23, v24))) (.g rfl rfl) rfl rfl ⟨rfl, rfl, tv⟩ rfl rfl rfl (CH (Dd _ _ _ _ Be Be) a25) ?_
         refine AX rfl (BW rfl (qp rfl (AB (by kernel_rfl) ?_)))
         exact Au _ h (sm [] _ _ rfl rfl)
        ·have h := An c22 h
         refine qn rfl (qn rfl (qn rfl (qn rfl (qn rfl (qn rfl (qn rfl (qn rfl (qn rfl (qn rfl (qn rfl (qn rfl (qn rfl (qp rfl (AB (by kernel_rfl) ?_))))))))))))))
         exact Au _ h (sm [] _ _ rfl rfl)
       ·refine Ap rfl (fun c26 => ?_) (fun c26 => ?_)
        ·have h := Ao c26 h
         refine Ab (Aa Ac rfl (qm rfl (qm rfl (qm rfl (qm rfl (qm rfl ?_))))))
         obtain ⟨v27, a27, h⟩ := bind_some h
         refine BA (ds0 := [_, _, _, _, _]) [90000] [] [true] (F4 N v14 v1.2.1 v1.2.2.1 v11.2.1 p4 v27 a27) (.p rfl) ZX rfl ⟨rfl, rfl, rfl, rfl, rfl, tv⟩ rfl rfl (by decide) ⟨rfl, tv⟩ rfl (A3 rfl) tv ⟨(fun h => by cases h), tv⟩ rfl rfl rfl ?_
         refine qa rfl (Ae (Ab (Aa Ac rfl (qm rfl (qa rfl (Ae (AS ?_)))))))
         exact Au _ h (sm [] _ _ rfl rfl)
        ·have h := An c26 h
         refine Aq (Ab (Aa Ac rfl (qm rfl (qm rfl (qm rfl (qm rfl (qm rfl ?_)))))))
         obtain ⟨v28, a28, h⟩ := bind_some h
         refine BA (ds0 := [_, _, _, _, _]) [90000] [] [true] (GO N v14 v1.2.1 v1.2.2.1 v11.2.1 p4 v28 a28) (.p rfl) aK rfl ⟨rfl, rfl, rfl, rfl, rfl, tv⟩ rfl rfl (by decide) ⟨rfl, tv⟩ rfl (A3 rfl) tv ⟨(fun h => by cases h), tv⟩ rfl rfl rfl ?_
         refine qm rfl (qx rfl (qx rfl (qa rfl (qa rfl (Ae (Ab (Aa Ac rfl (qm rfl (qa rfl (Ae (Ab (Aa Ac rfl (qm rfl (qm rfl (Bm rfl (qm rfl (qm rfl (Bm rfl (qa rfl (qa rfl (Ae (Ab (Aa Ac rfl (qm rfl (JA rfl (by decide) (qa rfl (Ae (Ab (Aa Ac rfl (qm rfl (qm rfl (AX rfl (Ae ?_)))))))))))))))))))))))))))))))))
         refine Ap rfl (fun c29 => ?_) (fun c29 => ?_)
         ·have h := Ao c29 h
          refine Ab (Aa Ac rfl (qm rfl (qm rfl (Cz rfl (qa rfl (Ae (Ab (Aa Ac rfl (qm rfl (qm rfl (qm rfl (qm rfl (qm rfl ?_)))))))))))))
          obtain ⟨v30, a30, h⟩ := bind_some h
          refine BA (ds0 := [_, _, _, _, _]) [90000] [] [true] (hrc v28.2.2 v1.2.1 v28.1 v7.2 p4 v30 a30) (.p rfl) V5 rfl ⟨rfl, rfl, rfl, rfl, rfl, tv⟩ rfl rfl (by decide) ⟨rfl, tv⟩ rfl (A3 rfl) tv ⟨(fun h => by cases h), tv⟩ rfl rfl rfl ?_
          refine Ae (Aa Ac rfl (qm rfl (AR rfl (qa rfl (Ae ?_)))))
          exact Au _ h (sm [] _ _ rfl rfl)
         ·have h := An c29 h
          refine Ab (Aa Ac rfl (qm rfl (qm rfl (Cz rfl (qa rfl (Ae (Ab (Aa Ac rfl (qm rfl (qm rfl (AR rfl (qm rfl (qm rfl (qm rfl ?_))))))))))))))
          obtain ⟨v31, a31, h⟩ := bind_some h
          refine BA (ds0 := [_, _, _, _, _]) [90000] [] [true] (hrc v28.2.2 ((wI .i64 (v28.1 + 1))) v1.2.2.1 v7.2 p4 v31 a31) (.p rfl) V5 rfl ⟨rfl, rfl, rfl, rfl, rfl, tv⟩ rfl rfl (by decide) ⟨rfl, tv⟩ rfl (A3 rfl) tv ⟨(fun h => by cases h), tv⟩ rfl rfl rfl ?_
          refine Ae (Aa Ac rfl (qm rfl (qa rfl (Ae ?_))))
          exact Au _ h (sm [] _ _ rfl rfl)
 ·cases h
theorem EW (N : Nat) : ∀ (k : Nat) (p0 : List Al) (p1 : Int) (p2 : Int) (p3 : Int) (p4 : (Al × Al) → Option Int) (r : (List Al)), Gs.pdqsort_R N k p0 p1 p2 p3 p4 = some r → Bj Tryz.prog 104 [oD (.own 90000), iD p1, iD p2, iD p3, oD (.clo (Bb (Co true Ad true Ad) Bi p4))] [(.vec 3 (p0.map Ad), .vec 3 (r.map Ad))] [] (.tup [])
 | 0, _, _, _, _, _, _, h => by cases h
 | k + 1, p0, p1, p2, p3, p4, r, h => GP N (Gs.pdqsort_R N k) (EW N k) p0 p1 p2 p3 p4 r h
theorem G7 (N : Nat) (p0 : List Al) (p1 : Int) (p2 : Int) (p3 : Int) (p4 : (Al × Al) → Option Int) (r : (List Al)) (h : Gs.pdqsort N p0 p1 p2 p3 p4 = some r) : Bj Tryz.prog 104 [oD (.own 90000), iD p1, iD p2, iD p3, oD (.clo (Bb (Co true Ad true Ad) Bi p4))] [(.vec 3 (p0.map Ad), .vec 3 (r.map Ad))] [] (.tup []) := EW N N p0 p1 p2 p3 p4 r h
theorem F3 (N : Nat) (p0 : List Al) (p1 : (Al × Al) → Option Int) (r : (List Al)) (h : CY N p0 p1 = some r) : Bj Tryz.prog 59 [oD (.own 90000), oD (.clo (Bb (Co true Ad true Ad) Bi p1))] [(.vec 3 (p0.map Ad), .vec 3 (r.map Ad))] [] (.tup []) := by
 unfold CY at h
 refine A9 (n := 14) (rs := []) Tryz.func59 rfl rfl rfl (A6 rfl) (A6 rfl) rfl rfl (A6 rfl) rfl (A6 rfl) fun w0 S0 GL => JI ?_
 refine Am (sm [] [(0, oD (.own 90000)), (1, oD (.clo (Bb (Co true Ad true Ad) Bi p1)))] [(90000, .vec 3 (p0.map Ad))] rfl rfl) (Ab (Aa Ac rfl (qm rfl (EN Ba rfl (qa rfl (Ae (Aa Ac rfl (qm rfl (qm rfl (qm rfl (GY Wr NE rfl ?_)))))))))))
 obtain ⟨v1, a1, h⟩ := bind_some h
 refine AJ [] (II N ((wI .u64 ((p0.length : Int)))) v1 a1) U9 rfl (qm rfl ?_)
 obtain ⟨v2, a2, h⟩ := bind_some h
 refine BA (ds0 := [_, _, _, _, _]) [90000] [] [true] (G7 N p0 0 ((p0.length : Int)) v1 p1 v2 a2) (.p rfl) V5 rfl ⟨rfl, rfl, rfl, rfl, rfl, tv⟩ rfl rfl (by decide) ⟨rfl, tv⟩ rfl (A3 rfl) tv ⟨(fun h => by cases h), tv⟩ rfl rfl rfl ?_
 refine Ae ?_
 obtain rfl := sj h
 refine ⟨_, (sm [] [] [(90000, .vec 3 (v2.map Ad))] rfl rfl), ?_⟩
 exact ⟨⟨[], tv, rfl⟩, ⟨rfl, tv⟩, tv⟩
theorem LY (N : Nat) (p0 : Al) (p1 : Al) (r : Int) (h : zFS N p0 p1 = some r) : AD Tryz.prog 60 [.e (.agg [iC p0.fr, iC p0.ft, iC p0.fu]), .e (.agg [iC p1.fr, iC p1.ft, iC p1.fu])] [] (iD r) := by
 unfold zFS at h
 refine Av (n := 22) (rs := [.tmp 4]) Tryz.func60 rfl rfl rfl (A6 rfl) (A6 rfl) rfl fun w0 S0 => ?_
 refine Ab (Aa Ac rfl (qb rfl (qb rfl (qa rfl (Ae (Ab (Aa Ac rfl (qf Th rfl (ql Cm rfl (qf Th rfl (ql Cm rfl ?_)))))))))))
 obtain ⟨v1, a1, h⟩ := bind_some h
 refine AJ [] (Gy N p0.fr p1.fr v1 a1) Xk rfl (qf TD rfl (ql Cm rfl (qf TD rfl (ql Cm rfl ?_))))
 obtain ⟨v2, a2, h⟩ := bind_some h
 refine AJ [] (Gy N p0.ft p1.ft v2 a2) Xk rfl (qf TO rfl (ql Cm rfl (qf TO rfl (ql Cm rfl ?_))))
 obtain ⟨v3, a3, h⟩ := bind_some h
 refine AJ [] (Gy N p0.fu p1.fu v3 a3) Xk rfl (DY AL Du KI rfl ?_)
 obtain ⟨v4, a4, h⟩ := bind_some h
 refine Dj [] [20] (MA N (([v1, v2, v3] : List Int)) v4 a4) Zx B4 rfl (qa rfl (AB (by kernel_rfl) ?_))
 obtain rfl := sj h
 refine Am (sm [] [(4, iD v4)] [] rfl rfl) (AA ?_)
 exact ⟨⟨[_], ⟨.tmp _ _ rfl, tv⟩, rfl⟩, tv⟩
theorem Gd (N : Nat) (p0 : List Al) (r : Nat × (List Al)) (h : C2 N p0 = some r) : Bj Tryz.prog 63 [oD (.own 90000)] [(.vec 3 (p0.map Ad), .vec 3 (r.2.map Ad))] [] (oD (.view 90000 3 0 r.1)) := by
 unfold C2 at h
 refine A9 (n := 61) (rs := [.tmp 2]) Tryz.func63 rfl rfl rfl (A6 rfl) (A6 rfl) rfl rfl (A6 rfl) rfl (A6 rfl) fun w0 S0 GL => ?_
 refine Am (sm [] [(0, oD (.own 90000))] [(90000, .vec 3 (p0.map Ad))] rfl rfl) (Ab (Aa Ac rfl (qa rfl (Ae (Ab (Ab (Aa Ac rfl (qm rfl (EN Ba rfl (AX rfl (Ae ?_)))))))))))
 refine Ap rfl (fun c1 => ?_) (fun c1 => ?_)
 ·have h := Ao c1 h
  refine Ab (Aa Ac rfl (qm rfl (qa rfl (Ae ?_))))
  obtain rfl := sj h
  refine Am ((Qd Ad p0 2 90000 3 rfl rfl).trans (sm [] [(2, oD (.view 90000 3 0 p0.length))] [(90000, .vec 3 (p0.map Ad))] rfl rfl)) (AA ?_)
  exact ⟨⟨[_], ⟨.tmp _ _ rfl, tv⟩, rfl⟩, ⟨rfl, tv⟩, tv⟩
 ·have h := An c1 h
  refine Aq (Ab (Ab (Aa Ac rfl (qa rfl (Ae ?_)))))
  refine AE (L := BX N p0) h (fun v2 => mk [(0, oD (.own 90000)), (3, iD v2)] [(90000, .vec 3 (p0.map Ad))]) (fun v3 => mk [(0, oD (.own 90000))] [(90000, .vec 3 (p0.map Ad))]) (fun _ _ => rfl) (sm [] _ _ rfl rfl) (fun j2 n2 v2 h => ?_) (fun v3 s h hs => ?_)
  ·unfold BX at h
   refine Ab (Ab (Aa Ac rfl (qm rfl (qm rfl (EN Ba rfl (AX rfl (Ae ?_)))))))
   refine Ap rfl (fun c4 => ?_) (fun c4 => ?_)
   ·have h := Ao c4 h
    refine Aq (Ab (AK (Ab (Aa Ac rfl (qm rfl (qm rfl ?_))))))
    obtain ⟨v5, a5, b5, h⟩ := Aj h
    refine qI Ba A2 a5 (Ag b5) rfl (qJ Do A2 (Ag b5) rfl (qm rfl (qm rfl (Bm rfl ?_))))
    obtain ⟨v6, a6, b6, h⟩ := Aj h
    refine qI Ba A2 a6 (Ag b6) rfl (qJ Do A2 (Ag b6) rfl ?_)
    refine VS [.int .i64 v5.fr, .int .i64 v5.ft, .int .i64 v5.fu] [.int .i64 v6.fr, .int .i64 v6.ft, .int .i64 v6.fu] (.p rfl) rfl rfl Tu rfl ?_
    refine AB (by kernel_rfl) ?_
    refine Ap rfl (fun c7 => ?_) (fun c7 => ?_)
    ·have h := Ao c7 h
     refine Ab (Aa Ac rfl (qm rfl (qm rfl ?_)))
     obtain ⟨c8, h⟩ := AU h
     have w9 : ((v2).toNat) + ((p0.length - (v2).toNat)) ≤ p0.length := by have := c8.2.1; have := c8.2.2; omega
     refine Je Ad p0 (.p rfl) rfl (Iz Ad _ _ p0) rfl Ba A2 (.some _ _ _ _ c8.1) (.none _) ⟨rfl, tv⟩ tv c8.2.1 (by rw [Nat.zero_add]; exact c8.2.2) (Nat.zero_add _) rfl ?_
     refine qa rfl (Ae (Ab (Ab (Aa Ac rfl (qa rfl (Ae ?_))))))
     refine AE (L := BT N p0 v2) h (fun v10 => mk [(0, oD (.own 90000)), (3, iD v10.2.1), (4, oD (.view 90000 3 ((v2).toNat) ((p0.length - (v2).toNat)))), (5, iD v10.2.2)] [(90000, .vec 3 (v10.1.map Ad))]) (fun v11 => mk [(0, oD (.own 90000)), (3, iD v11.2)] [(90000, .vec 3 (v11.1.map Ad))]) (fun _ _ => rfl) (sm [] _ _ rfl rfl) (fun j10 n10 v10 h => ?_) (fun v11 s h hs => ?_)
     ·unfold BT at h
      refine Ab (Ab (Aa Ac rfl (qm rfl (qm rfl ?_))))
      refine XA (.p rfl) rfl Ba ?_
      refine AX rfl (Ae ?_)
      refine Ap rfl (fun c12 => ?_) (fun c12 => ?_)
      ·have h := Ao c12 h
       refine Aq ?_
       refine AO h (fun v13 => mk [(0, oD (.own 90000)), (3, iD v13.2), (4, oD (.view 90000 3 ((v2).toNat) ((p0.length - (v2).toNat)))), (5, iD v10.2.2)] [(90000, .vec 3 (v13.1.map Ad))]) (fun j13 h => ?_) (fun v13 h => ?_)
       ·refine AK (Ab (Aa Ac rfl (qm rfl (qm rfl ?_))))
        obtain ⟨c15, h⟩ := AU h
        obtain ⟨v14, a14, b14, h⟩ := Aj h
        refine MY Ad v10.1 (.p rfl) rfl c15 rfl rfl Ba A2 a14 (J3 b14).1 rfl ?_
        refine Ms (.p rfl) rfl Do A2 rfl (Ag (J3 b14).2) ?_
        refine qm rfl (qm rfl (Bm rfl ?_))
        obtain ⟨v16, a16, b16, h⟩ := Aj h
        refine MY Ad v10.1 (.p rfl) rfl c15 rfl rfl Ba A2 a16 (J3 b16).1 rfl ?_
        refine Ms (.p rfl) rfl Do A2 rfl (Ag (J3 b16).2) ?_
        refine X2 [.int .i64 v14.fr, .int .i64 v14.ft, .int .i64 v14.fu] [.int .i64 v16.fr, .int .i64 v16.ft, .int .i64 v16.fu] (.p rfl) rfl rfl Tu rfl ?_
        refine AB (by kernel_rfl) ?_
        refine Ap rfl (fun c17 => ?_) (fun c17 => ?_)
        ·have h := Ao c17 h
         refine Ab (Aa Ac rfl (qm rfl (qm rfl (qm rfl (qm rfl ?_)))))
         obtain ⟨v18, a18, b18, h⟩ := Aj h
         refine MY Ad v10.1 (.p rfl) rfl c15 rfl rfl Ba A2 a18 (J3 b18).1 rfl ?_
         refine Ms (.p rfl) rfl Do A2 rfl (Ag (J3 b18).2) ?_
         obtain ⟨v19, a19, b19, h⟩ := Aj h
         refine qI Ba A2 a19 (Ag b19) rfl ?_
         refine AY rfl rfl rfl rfl (Ag b19) rfl A2 rfl (A6 rfl) (AZ Ad v10.1 _ v18) ?_
         refine Ae (Aa Ac rfl (qm rfl (AR rfl (qa rfl (Ae ?_)))))
         exact Au _ h (sm [] _ _ rfl rfl)
        ·have h := An c17 h
         refine Aq ?_
         exact Au _ h (sm [] _ _ rfl rfl)
       ·refine Aa Ac rfl (qm rfl (AR rfl (qa rfl (Ae ?_))))
        exact Au _ h (sm [] _ _ rfl rfl)
      ·have h := An c12 h
       refine AS ?_
       exact Au _ h (sm [] _ _ rfl rfl)
     ·refine Am hs (Ab (Aa Ac rfl (qm rfl (qm rfl ?_))))
      obtain ⟨c20, h⟩ := AU h
      have w21 : ((v11.2).toNat) + ((v11.1.length - (v11.2).toNat)) ≤ v11.1.length := by have := c20.2.1; have := c20.2.2; omega
      refine Je Ad v11.1 (.p rfl) rfl (Iz Ad _ _ v11.1) rfl Ba A2 (.some _ _ _ _ c20.1) (.none _) ⟨rfl, tv⟩ tv c20.2.1 (by rw [Nat.zero_add]; exact c20.2.2) (Nat.zero_add _) rfl ?_
      have w22 : (IZ v11.1 ((v11.2).toNat) (List.replicate ((v11.1.length - (v11.2).toNat)) ((Al.mk 0 0 0)))).length = v11.1.length := I7 (by rw [List.length_replicate]; exact w21)
      refine Rx Ad v11.1 ((Al.mk 0 0 0)) rfl rfl (MR Ad _ _ ((v11.2).toNat) ((v11.1.length - (v11.2).toNat)) v11.1 w21) rfl Ba Jk rfl rfl rfl rfl ?_
      refine Ae (Ab (Aa Ac rfl (qm rfl (qm rfl ?_))))
      obtain ⟨c23, h⟩ := AU h
      have w24 : 0 + ((v11.2).toNat) ≤ (IZ v11.1 ((v11.2).toNat) (List.replicate ((v11.1.length - (v11.2).toNat)) ((Al.mk 0 0 0)))).length := by have := c23.2.1; have := c23.2.2; omega
      refine Je Ad (IZ v11.1 ((v11.2).toNat) (List.replicate ((v11.1.length - (v11.2).toNat)) ((Al.mk 0 0 0)))) (.p rfl) rfl (Iz Ad _ _ (IZ v11.1 ((v11.2).toNat) (List.replicate ((v11.1.length - (v11.2).toNat)) ((Al.mk 0 0 0))))) rfl Ba A2 (.none _) (.some _ _ _ _ c23.1) tv ⟨rfl, tv⟩ c23.2.1 (by rw [Nat.zero_add]; exact c23.2.2) (Nat.zero_add _) rfl ?_
      refine qa rfl (Ae ?_)
      obtain rfl := sj h
      refine Am (sm [] [(2, oD (.view 90000 3 0 ((v11.2).toNat)))] [(90000, .vec 3 ((IZ v11.1 ((v11.2).toNat) (List.replicate ((v11.1.length - (v11.2).toNat)) ((Al.mk 0 0 0)))).map Ad))] rfl rfl) (AA ?_)
      exact ⟨⟨[_], ⟨.tmp _ _ rfl, tv⟩, rfl⟩, ⟨rfl, tv⟩, tv⟩
    ·have h := An c7 h
     refine Aq (Aa Ac rfl (qm rfl (AR rfl (qa rfl (Ae ?_)))))
     exact Au _ h (sm [] _ _ rfl rfl)
   ·have h := An c4 h
    refine AS ?_
    exact Au _ h (sm [] _ _ rfl rfl)
  ·refine Am hs (Ab (Aa Ac rfl (qm rfl (qa rfl (Ae ?_)))))
   obtain rfl := sj h
   refine Am ((Qd Ad p0 2 90000 3 rfl rfl).trans (sm [] [(2, oD (.view 90000 3 0 p0.length))] [(90000, .vec 3 (p0.map Ad))] rfl rfl)) (AA ?_)
   exact ⟨⟨[_], ⟨.tmp _ _ rfl, tv⟩, rfl⟩, ⟨rfl, tv⟩, tv⟩
theorem MV (N : Nat) (p0 : Ah) (p1 : List Af) (r : (List Al) × Int) (h : HS N p0 p1 = some r) : AD Tryz.prog 22 [.e (.agg [sC (p0.fb.map Ak), sC (p0.ff.map Ak), sC (p0.fh.map Ak), sC (p0.fc.map Ar)]), pD (.sl (p1.map Ai))] [(3, r.1.map Ad)] (.tup [.one (.own 0), .one (iC r.2)]) := by
 unfold HS at h
 refine Av (n := 36) (rs := [.tmp 4, .tmp 5]) Tryz.func22 rfl rfl rfl (A6 rfl) (A6 rfl) rfl fun w0 S0 => ?_
 refine Ab (Aa Ac rfl (qb rfl (qa rfl (qa rfl (Ae (Ab (Aa Ac rfl (qL DL Di rfl (qm rfl ?_)))))))))
 obtain ⟨v1, a1, h⟩ := bind_some h
 refine AJ [2001] (KC N p0 p1 v1 a1) Y2 rfl (qm rfl (qx rfl (qx rfl (qa rfl (qa rfl (Ae (Ab (Ab (Aa Ac rfl (qm rfl (Cp rfl (Ae ?_))))))))))))
 refine Ap rfl (fun c2 => ?_) (fun c2 => ?_)
 ·have h := Ao c2 h
  refine Ab (Aa Ac rfl (qm rfl (qa rfl (qa rfl (Ae ?_)))))
  obtain rfl := sj h
  refine Am ((Bu 4 2002 3 rfl rfl rfl).trans (sm [(1000, 2002)] [(4, oD (.own 1000)), (5, iD v1.2)] [(1000, .vec 3 ((([] : List Al)).map Ad))] rfl rfl)) (AA ?_)
  exact ⟨⟨[_, _], ⟨.tmp _ _ rfl, ⟨.tmp _ _ rfl, tv⟩⟩, rfl⟩, ⟨rfl, tv⟩⟩
 ·have h := An c2 h
  refine Aq (Ab (Aa Ac rfl (qa rfl (Ae (Ab (Ab (Aa Ac rfl (qm rfl (EN LG rfl (qm rfl (Ae ?_)))))))))))
  refine AE (L := FC N v1) h (fun v3 => mk [(8, oD (.own 2003)), (20, oD (.own 2004)), (21, iD ((v1.1.length : Int))), (22, iD v3.2)] [(2003, .vec 3 (v3.1.map Ad)), (2004, .vec 9 (v1.1.map D9))]) (fun v4 => mk [(8, oD (.own 2005))] [(2005, .vec 3 (v4.map Ad))]) (fun _ _ => rfl) ((Bu 8 2006 3 rfl rfl rfl).trans (sm [(2003, 2006), (2004, 2001)] _ _ rfl rfl)) (fun j3 n3 v3 h => ?_) (fun v4 s h hs => ?_)
  ·unfold FC at h
   refine Ab (Aa Ac rfl (AX rfl (Ae (Ab ?_))))
   refine Ap rfl (fun c5 => ?_) (fun c5 => ?_)
   ·have h := Ao c5 h
    refine Aq (Ab (AK (Ab (Aa Ac rfl ?_))))
    obtain ⟨v6, a6, b6, h⟩ := Aj h
    refine qI LG RE a6 (Ag b6) rfl (qJ bK RE (Ag b6) rfl (qz UZ rfl (qs RE rfl (Ae (Aa Ac rfl (qm rfl (qf TP rfl (qL Do A2 rfl (DY Ba A2 Jk rfl ?_)))))))))
    obtain ⟨c7, h⟩ := AU h
    refine DO (f := Ad) Ba Ba A2 R2 Jk c7 rfl (qa rfl (Ae (Aa Ac rfl (AR rfl (qm rfl (Ae ?_))))))
    exact Au _ h (sm [(2003, 30)] _ _ rfl rfl)
   ·have h := An c5 h
    refine AS ?_
    exact Au _ h (sm [(2005, 2003)] _ _ rfl rfl)
  ·refine Am hs (Ab (Aa Ac rfl (qm rfl ?_)))
   obtain ⟨v8, a8, h⟩ := bind_some h
   refine BA (ds0 := [_, _]) [2005] [] [true] (Bj.weak (ds' := [_, oD (.fnc 60)]) (F3 N v4 ((fun (x : Al × Al) => zFS N x.1 x.2)) v8 a8) ⟨(fun _ _ _ hh => hh), (fun _ _ _ hh => R8 bP (fun ar t ht => by obtain ⟨x, r, rfl, hq, rfl⟩ := Ij ht; exact LY N x.1 x.2 r hq) hh), tv⟩) (.p rfl) cc rfl ⟨rfl, rfl, tv⟩ rfl rfl (by decide) ⟨rfl, tv⟩ rfl (A3 rfl) tv ⟨(fun h => by cases h), tv⟩ rfl rfl rfl ?_
   refine Ae (Ab (Aa Ac rfl (qm rfl ?_)))
   obtain ⟨v9, a9, h⟩ := bind_some h
   obtain ⟨c10, h⟩ := AU h
   have w11 : 0 + v9.1 ≤ v9.2.length := by rw [Nat.zero_add]; exact c10
   refine BA (ds0 := [_]) [2005] [] [true] (Gd N v8 v9 a9) (.p rfl) bm rfl ⟨rfl, tv⟩ rfl rfl (by decide) ⟨rfl, tv⟩ rfl (A3 rfl) tv ⟨(fun h => by cases h), tv⟩ rfl rfl rfl ?_
   refine DT (VI Ad v9.2 35 2005 2007 3 v9.1 rfl rfl rfl rfl rfl c10) (qa rfl (qa rfl (Ae ?_)))
   obtain rfl := sj h
   refine Am (sm [(1000, 2007)] [(4, oD (.own 1000)), (5, iD 0)] [(1000, .vec 3 ((v9.2.take v9.1).map Ad))] rfl rfl) (AA ?_)
   exact ⟨⟨[_, _], ⟨.tmp _ _ rfl, ⟨.tmp _ _ rfl, tv⟩⟩, rfl⟩, ⟨rfl, tv⟩⟩
theorem Na (N : Nat) (p0 : Ah) (p1 : List Af) (r : Int × Af × Int) (h : HT N p0 p1 = some r) : AD Tryz.prog 25 [.e (.agg [sC (p0.fb.map Ak), sC (p0.ff.map Ak), sC (p0.fh.map Ak), sC (p0.fc.map Ar)]), pD (.sl (p1.map Ai))] [(1, r.2.1.fd.map Ak), (1, r.2.1.fa.map Ak), (1, r.2.1.fe.map Bn)] (.tup [.one (iC r.1), .agg [.own 0, .own 1, .own 2], .one (iC r.2.2)]) := by
 unfold HT at h
 refine Av (n := 88) (rs := [.tmp 4, .cell 5 46, .tmp 6]) Tryz.func25 rfl rfl rfl (A6 rfl) (A6 rfl) rfl fun w0 S0 => ?_
 refine Ab (Aa Ac rfl (qb rfl (qa rfl (qz Cw rfl (qa rfl (Ae (Ab (Ab (Aa Ac rfl (qL DL Di rfl ?_))))))))))
 obtain ⟨v1, a1, h⟩ := bind_some h
 refine AJ [] (FK N p0 v1 a1) Xb rfl (qa rfl (Ae (Ab (Aa Ac rfl (qm rfl (Cp rfl (Ae ?_)))))))
 refine Ap rfl (fun c2 => ?_) (fun c2 => ?_)
 ·have h := Ao c2 h
  refine Ab (Aa Ac rfl (Bz Cw HB rfl (qm rfl (qa rfl (qs Az rfl (qa rfl (Ae ?_)))))))
  obtain rfl := sj h
  refine Am ((AH 5 0 2001 1 _ rfl rfl rfl rfl).trans ((AH 5 1 2002 1 _ rfl rfl rfl rfl).trans ((AH 5 2 2003 1 _ rfl rfl rfl rfl).trans (sm [(1000, 2001), (1001, 2002), (1002, 2003)] [(4, iD 0), (5, oD (.ptr 5 0)), (6, iD v1)] [(5, .box [.own 1000, .own 1001, .own 1002]), (1000, .vec 1 ((([] : List Int)).map Ak)), (1001, .vec 1 ((([] : List Int)).map Ak)), (1002, .vec 1 ((([] : List Int)).map Bn))] rfl rfl)))) (AA ?_)
  exact ⟨⟨[_, _, _], ⟨.tmp _ _ rfl, ⟨.cellN _ _ _ _ _ _ _ rfl rfl A7 Az rfl rfl (Jx rfl), ⟨.tmp _ _ rfl, tv⟩⟩⟩, rfl⟩, ⟨rfl, rfl, rfl, tv⟩⟩
 ·have h := An c2 h
  refine Aq (Ab (Ab (Aa Ac rfl (qm rfl (A1 AV rfl (BK rfl (Ae ?_)))))))
  refine Ap rfl (fun c3 => ?_) (fun c3 => ?_)
  ·have h := Ao c3 h
   refine Ab (Aa Ac rfl (Bz Cw HB rfl (qa rfl (qs Az rfl (qa rfl (Ae ?_))))))
   obtain rfl := sj h
   refine Am ((AH 5 0 2004 1 _ rfl rfl rfl rfl).trans ((AH 5 1 2005 1 _ rfl rfl rfl rfl).trans ((AH 5 2 2006 1 _ rfl rfl rfl rfl).trans (sm [(1000, 2004), (1001, 2005), (1002, 2006)] [(4, iD 0), (5, oD (.ptr 5 0)), (6, iD 10)] [(5, .box [.own 1000, .own 1001, .own 1002]), (1000, .vec 1 ((([] : List Int)).map Ak)), (1001, .vec 1 ((([] : List Int)).map Ak)), (1002, .vec 1 ((([] : List Int)).map Bn))] rfl rfl)))) (AA ?_)
   exact ⟨⟨[_, _, _], ⟨.tmp _ _ rfl, ⟨.cellN _ _ _ _ _ _ _ rfl rfl A7 Az rfl rfl (Jx rfl), ⟨.tmp _ _ rfl, tv⟩⟩⟩, rfl⟩, ⟨rfl, rfl, rfl, tv⟩⟩
  ·have h := An c3 h
   refine Aq (Ab (Aa Ac rfl (qa rfl (qa rfl (Ae (Ab (Ab (Aa Ac rfl (qm rfl (A1 AV rfl (qm rfl (Ae ?_))))))))))))
   refine AE (L := FD N p0 p1) h (fun v4 => mk [(1, pD (.sl (p1.map Ai))), (2, oD (.ptr 2 0)), (5, oD (.ptr 5 0)), (8, iD v4.1), (9, iD v4.2.1), (27, pD (.sl (p1.map Ai))), (28, iD ((p1.length : Int))), (29, iD v4.2.2)] [(2, .box [sC (p0.fb.map Ak), sC (p0.ff.map Ak), sC (p0.fh.map Ak), sC (p0.fc.map Ar)]), (5, .box [.pure (.nil0), .pure (.nil0), .pure (.nil0)])]) (fun v5 => mk [(1, pD (.sl (p1.map Ai))), (5, oD (.ptr 5 0)), (8, iD v5.1), (9, iD v5.2)] [(5, .box [.pure (.nil0), .pure (.nil0), .pure (.nil0)])]) (fun _ _ => rfl) (sm [] _ _ rfl rfl) (fun j4 n4 v4 h => ?_) (fun v5 s h hs => ?_)
   ·unfold FD at h
    refine Ab (Aa Ac rfl (AX rfl (Ae (Ab ?_))))
    refine Ap rfl (fun c6 => ?_) (fun c6 => ?_)
    ·have h := Ao c6 h
     refine Aq ?_
     refine AO h (fun v7 => mk [(1, pD (.sl (p1.map Ai))), (2, oD (.ptr 2 0)), (5, oD (.ptr 5 0)), (8, iD v7.1), (9, iD v7.2), (27, pD (.sl (p1.map Ai))), (28, iD ((p1.length : Int))), (29, iD v4.2.2)] [(2, .box [sC (p0.fb.map Ak), sC (p0.ff.map Ak), sC (p0.fh.map Ak), sC (p0.fc.map Ar)]), (5, .box [.pure (.nil0), .pure (.nil0), .pure (.nil0)])]) (fun j7 h => ?_) (fun v7 h => ?_)
     ·refine AK (Ab (Aa Ac rfl (qm rfl ?_)))
      obtain ⟨v8, a8, b8, h⟩ := Aj h
      refine qi AV Az a8 (Ag b8) rfl (qK A7 Az rfl (qz Cw rfl (qa rfl (qs Az rfl (Ae (Ab (Ab (Aa Ac rfl (qL DL Di rfl (qL A7 Az rfl ?_))))))))))
      obtain ⟨v9, a9, h⟩ := bind_some h
      refine AJ [] (Iw N p0 v8 v9 a9) Vi rfl (qa rfl (Ae (Ab (Aa Ac rfl (qm rfl (Cp rfl (Ae ?_)))))))
      refine Ap rfl (fun c10 => ?_) (fun c10 => ?_)
      ·have h := Ao c10 h
       refine Ab (Aa Ac rfl (Bz Cw HB rfl (qm rfl (qa rfl (qs Az rfl (qa rfl (Ae ?_)))))))
       obtain rfl := sj h
       refine Am ((AH 5 0 2007 1 _ rfl rfl rfl rfl).trans ((AH 5 1 2008 1 _ rfl rfl rfl rfl).trans ((AH 5 2 2009 1 _ rfl rfl rfl rfl).trans (sm [(1000, 2007), (1001, 2008), (1002, 2009)] [(4, iD 0), (5, oD (.ptr 5 0)), (6, iD v9)] [(5, .box [.own 1000, .own 1001, .own 1002]), (1000, .vec 1 ((([] : List Int)).map Ak)), (1001, .vec 1 ((([] : List Int)).map Ak)), (1002, .vec 1 ((([] : List Int)).map Bn))] rfl rfl)))) (AA ?_)
       exact ⟨⟨[_, _, _], ⟨.tmp _ _ rfl, ⟨.cellN _ _ _ _ _ _ _ rfl rfl A7 Az rfl rfl (Jx rfl), ⟨.tmp _ _ rfl, tv⟩⟩⟩, rfl⟩, ⟨rfl, rfl, rfl, tv⟩⟩
      ·have h := An c10 h
       refine Aq (Ab (Aa Ac rfl (qa rfl (Ae (Ab (Ab (Aa Ac rfl (qf Ip rfl (ql Bo rfl (A1 AL rfl (qm rfl (Ae ?_))))))))))))
       refine AE (L := Fr N p0 v8) h (fun v11 => mk [(1, pD (.sl (p1.map Ai))), (2, oD (.ptr 2 0)), (5, oD (.ptr 5 0)), (8, iD v4.1), (9, iD v4.2.1), (10, iD v4.2.2), (11, oD (.ptr 11 0)), (13, iD v11.1), (27, pD (.sl (p1.map Ai))), (28, iD ((p1.length : Int))), (29, iD v4.2.2), (42, pD (.sl (p0.fh.map Ak))), (43, iD ((p0.fh.length : Int))), (44, iD v11.2)] [(2, .box [sC (p0.fb.map Ak), sC (p0.ff.map Ak), sC (p0.fh.map Ak), sC (p0.fc.map Ar)]), (5, .box [.pure (.nil0), .pure (.nil0), .pure (.nil0)]), (11, .box [sC (v8.fd.map Ak), sC (v8.fa.map Ak), sC (v8.fe.map Bn)])]) (fun v12 => mk [(1, pD (.sl (p1.map Ai))), (2, oD (.ptr 2 0)), (5, oD (.ptr 5 0)), (8, iD v4.1), (9, iD v4.2.1), (10, iD v4.2.2), (13, iD v12), (27, pD (.sl (p1.map Ai))), (28, iD ((p1.length : Int))), (29, iD v4.2.2)] [(2, .box [sC (p0.fb.map Ak), sC (p0.ff.map Ak), sC (p0.fh.map Ak), sC (p0.fc.map Ar)]), (5, .box [.pure (.nil0), .pure (.nil0), .pure (.nil0)])]) (fun _ _ => rfl) (sm [] _ _ rfl rfl) (fun j11 n11 v11 h => ?_) (fun v12 s h hs => ?_)
       ·unfold Fr at h
        refine Ab (Aa Ac rfl (AX rfl (Ae (Ab ?_))))
        refine Ap rfl (fun c13 => ?_) (fun c13 => ?_)
        ·have h := Ao c13 h
         refine Aq ?_
         refine AO h (fun v14 => mk [(1, pD (.sl (p1.map Ai))), (2, oD (.ptr 2 0)), (5, oD (.ptr 5 0)), (8, iD v4.1), (9, iD v4.2.1), (10, iD v4.2.2), (11, oD (.ptr 11 0)), (13, iD v14), (27, pD (.sl (p1.map Ai))), (28, iD ((p1.length : Int))), (29, iD v4.2.2), (42, pD (.sl (p0.fh.map Ak))), (43, iD ((p0.fh.length : Int))), (44, iD v11.2)] [(2, .box [sC (p0.fb.map Ak), sC (p0.ff.map Ak), sC (p0.fh.map Ak), sC (p0.fc.map Ar)]), (5, .box [.pure (.nil0), .pure (.nil0), .pure (.nil0)]), (11, .box [sC (v8.fd.map Ak), sC (v8.fa.map Ak), sC (v8.fe.map Bn)])]) (fun j14 h => ?_) (fun v14 h => ?_)
         ·refine AK (Ab (Aa Ac rfl (qm rfl ?_)))
          obtain ⟨v15, a15, b15, h⟩ := Aj h
          refine qi AL Du a15 (Ag b15) rfl (qk Cm rfl (qa rfl (qa rfl (Ae ?_))))
          refine AO h (fun v16 => mk [(1, pD (.sl (p1.map Ai))), (2, oD (.ptr 2 0)), (5, oD (.ptr 5 0)), (8, iD v4.1), (9, iD v4.2.1), (10, iD v4.2.2), (11, oD (.ptr 11 0)), (13, iD v11.1), (27, pD (.sl (p1.map Ai))), (28, iD ((p1.length : Int))), (29, iD v4.2.2), (42, pD (.sl (p0.fh.map Ak))), (43, iD ((p0.fh.length : Int))), (44, iD v11.2), (63, bD v16)] [(2, .box [sC (p0.fb.map Ak), sC (p0.ff.map Ak), sC (p0.fh.map Ak), sC (p0.fc.map Ar)]), (5, .box [.pure (.nil0), .pure (.nil0), .pure (.nil0)]), (11, .box [sC (v8.fd.map Ak), sC (v8.fa.map Ak), sC (v8.fe.map Bn)])]) (fun j16 h => ?_) (fun v16 h => ?_)
          ·refine Aa Ac rfl (qf CO rfl (ql Bo rfl (qm rfl ?_)))
           obtain ⟨v17, a17, b17, h⟩ := Aj h
           refine qi AL Du a17 (Ag b17) rfl (qk Cm rfl (qm rfl (BK rfl (qm rfl ?_))))
           refine AF (t := 56) rfl (fun c18 => ?_) (fun c18 => ?_)
           ·have h := Ao c18 h
            refine qf BH rfl (ql Bo rfl (qm rfl ?_))
            obtain ⟨v19, a19, b19, h⟩ := Aj h
            refine qi AL Du a19 (Ag b19) rfl (qk Cm rfl (AX rfl (qp rfl (Ae ?_))))
            exact Au _ h (sm [] _ _ rfl rfl)
           ·have h := An c18 h
            refine qn rfl (qn rfl (qn rfl (qn rfl (qn rfl (qn rfl (qp rfl (Ae ?_)))))))
            exact Au _ h (sm [] _ _ rfl rfl)
          ·refine Ap rfl (fun c20 => ?_) (fun c20 => ?_)
           ·have h := Ao c20 h
            refine Aa Ac rfl (qm rfl (AR rfl (qa rfl (Ae ?_))))
            exact Au _ h (sm [] _ _ rfl rfl)
           ·have h := An c20 h
            refine Aq ?_
            exact Au _ h (sm [] _ _ rfl rfl)
         ·refine Aa Ac rfl (AR rfl (qm rfl (Ae ?_)))
          exact Au _ h (sm [] _ _ rfl rfl)
        ·have h := An c13 h
         refine AS ?_
         exact Au _ h (sm [] _ _ rfl rfl)
       ·refine Am hs (Ab (Aa Ac rfl (qm rfl (qm rfl (E2 rfl (Ae ?_))))))
        refine Ap rfl (fun c21 => ?_) (fun c21 => ?_)
        ·have h := Ao c21 h
         refine Aa Ac rfl (qm rfl (qm rfl (qa rfl (qa rfl (Ae ?_)))))
         exact Au _ h (sm [] _ _ rfl rfl)
        ·have h := An c21 h
         refine Aq ?_
         exact Au _ h (sm [] _ _ rfl rfl)
     ·refine Aa Ac rfl (AR rfl (qm rfl (Ae ?_)))
      exact Au _ h (sm [] _ _ rfl rfl)
    ·have h := An c6 h
     refine AS ?_
     exact Au _ h (sm [] _ _ rfl rfl)
   ·refine Am hs (Ab (Aa Ac rfl (qm rfl (qm rfl ?_))))
    obtain ⟨v22, a22, b22, h⟩ := Aj h
    refine qi AV Az a22 (Ag b22) rfl (qK A7 Az rfl (qz Cw rfl (qs Az rfl (Ae (Ab (Aa Ac rfl (qm rfl (qf CO rfl (ql Bo rfl ?_)))))))))
    obtain ⟨v23, a23, h⟩ := bind_some h
    refine AJ [2010] (Db N v22.fd v23 a23) Sx rfl (qf BH rfl (ql Bo rfl ?_))
    obtain ⟨v24, a24, h⟩ := bind_some h
    refine AJ [2011] (Db N v22.fa v24 a24) Sx rfl (qf CU rfl (ql Hb rfl ?_))
    obtain ⟨v25, a25, h⟩ := bind_some h
    refine AJ [2012] (EK N v22.fe v25 a25) Yl rfl (Bz Cw HB rfl (qa rfl (qs Az rfl (qa rfl (AB (by kernel_rfl) ?_)))))
    obtain rfl := sj h
    refine Am (sm [(1000, 2010), (1001, 2011), (1002, 2012)] [(4, iD v5.1), (5, oD (.ptr 5 0)), (6, iD 0)] [(5, .box [.own 1000, .own 1001, .own 1002]), (1000, .vec 1 (v23.map Ak)), (1001, .vec 1 (v24.map Ak)), (1002, .vec 1 (v25.map Bn))] rfl rfl) (AA ?_)
    exact ⟨⟨[_, _, _], ⟨.tmp _ _ rfl, ⟨.cellN _ _ _ _ _ _ _ rfl rfl A7 Az rfl rfl (Jx rfl), ⟨.tmp _ _ rfl, tv⟩⟩⟩, rfl⟩, ⟨rfl, rfl, rfl, tv⟩⟩
theorem IM (N : Nat) (p0 : Af) (p1 : Af) (r : Bool) (h : Dx N p0 p1 = some r) : AD Tryz.prog 27 [.e (.agg [sC (p0.fd.map Ak), sC (p0.fa.map Ak), sC (p0.fe.map Bn)]), .e (.agg [sC (p1.fd.map Ak), sC (p1.fa.map Ak), sC (p1.fe.map Bn)])] [] (bD r) := by
 unfold Dx at h
 refine Av (n := 9) (rs := [.tmp 4]) Tryz.func27 rfl rfl rfl (A6 rfl) (A6 rfl) rfl fun w0 S0 => ?_
 refine Ab (Aa Ac rfl (qb rfl (qb rfl (qa rfl (Ae (Ab (Aa Ac rfl (qL A7 Az rfl (qL A7 Az rfl ?_)))))))))
 obtain ⟨v1, a1, h⟩ := bind_some h
 refine AJ [] (Gt N p0 p1 v1 a1) YG rfl (BK rfl (qa rfl (Ae ?_)))
 obtain rfl := sj h
 refine Am (sm [] [(4, bD ((v1 == 0)))] [] rfl rfl) (AA ?_)
 exact ⟨⟨[_], ⟨.tmp _ _ rfl, tv⟩, rfl⟩, tv⟩
theorem Jg (N : Nat) (p0 : List Af) (p1 : List Af) (r : Bool) (h : Er N p0 p1 = some r) : AD Tryz.prog 14 [pD (.sl (p0.map Ai)), pD (.sl (p1.map Ai))] [] (bD r) := by
 unfold Er at h
 refine Av (n := 27) (rs := [.tmp 4]) Tryz.func14 rfl rfl rfl (A6 rfl) (A6 rfl) rfl fun w0 S0 => ?_
 refine Ab (Aa Ac rfl (qa rfl (Ae (Ab (Ab (Aa Ac rfl (qm rfl (A1 AV rfl (qm rfl (A1 AV rfl (Cp rfl (Ae ?_))))))))))))
 refine Ap rfl (fun c1 => ?_) (fun c1 => ?_)
 ·have h := Ao c1 h
  refine Ab (Aa Ac rfl (qa rfl (Ae ?_)))
  obtain rfl := sj h
  refine Am (sm [] [(4, bD false)] [] rfl rfl) (AA ?_)
  exact ⟨⟨[_], ⟨.tmp _ _ rfl, tv⟩, rfl⟩, tv⟩
 ·have h := An c1 h
  refine Aq (Ab (Ab (Aa Ac rfl (qa rfl (Ae ?_)))))
  refine AE (L := C8 N p0 p1) h (fun v2 => mk [(0, pD (.sl (p0.map Ai))), (1, pD (.sl (p1.map Ai))), (5, iD v2)] []) (fun v3 => mk [] []) (fun _ _ => rfl) (sm [] _ _ rfl rfl) (fun j2 n2 v2 h => ?_) (fun v3 s h hs => ?_)
  ·unfold C8 at h
   refine Ab (Ab (Aa Ac rfl (qm rfl (qm rfl (A1 AV rfl (AX rfl (Ae ?_)))))))
   refine Ap rfl (fun c4 => ?_) (fun c4 => ?_)
   ·have h := Ao c4 h
    refine Aq (Ab (AK (Ab (Aa Ac rfl (qm rfl (qm rfl ?_))))))
    obtain ⟨v5, a5, b5, h⟩ := Aj h
    refine qi AV Az a5 (Ag b5) rfl (qK A7 Az rfl (qm rfl (qm rfl ?_)))
    obtain ⟨v6, a6, b6, h⟩ := Aj h
    refine qi AV Az a6 (Ag b6) rfl (qK A7 Az rfl ?_)
    obtain ⟨v7, a7, h⟩ := bind_some h
    refine AJ [] (IM N v5 v6 v7 a7) Y9 rfl (BW rfl (AB (by kernel_rfl) ?_))
    refine Ap rfl (fun c8 => ?_) (fun c8 => ?_)
    ·have h := Ao c8 h
     refine Ab (Aa Ac rfl (qa rfl (Ae ?_)))
     obtain rfl := sj h
     refine Am (sm [] [(4, bD false)] [] rfl rfl) (AA ?_)
     exact ⟨⟨[_], ⟨.tmp _ _ rfl, tv⟩, rfl⟩, tv⟩
    ·have h := An c8 h
     refine Aq (Aa Ac rfl (qm rfl (AR rfl (qa rfl (Ae ?_)))))
     exact Au _ h (sm [] _ _ rfl rfl)
   ·have h := An c4 h
    refine AS ?_
    exact Au _ h (sm [] _ _ rfl rfl)
  ·refine Am hs (Ab (Aa Ac rfl (qa rfl (Ae ?_))))
   obtain rfl := sj h
   refine Am (sm [] [(4, bD true)] [] rfl rfl) (AA ?_)
   exact ⟨⟨[_], ⟨.tmp _ _ rfl, tv⟩, rfl⟩, tv⟩
theorem Fu (N : Nat) (p0 : List Af) (p1 : Af) (p2 : (Af × Af) → Option Int) (r : Int × Bool) (h : BF N p0 p1 p2 = some r) : AD Tryz.prog 78 [pD (.sl (p0.map Ai)), .e (.agg [sC (p1.fd.map Ak), sC (p1.fa.map Ak), sC (p1.fe.map Bn)]), oD (.clo (Bb (Co true Ai true Ai) Bi p2))] [] (.tup [.one (iC r.1), .one (.pure (.val (.bool r.2)))]) := by
 unfold BF at h
 refine Av (n := 49) (rs := [.tmp 6, .tmp 7]) Tryz.func78 rfl rfl rfl (A6 rfl) (A6 rfl) rfl fun w0 S0 => ?_
 refine Ab (Aa Ac rfl (qb rfl (qa rfl (qa rfl (Ae (Ab (Aa Ac rfl (qm rfl (A1 AV rfl (qa rfl (Ae (Ab (Aa Ac rfl (qm rfl (qa rfl (qa rfl (Ae (Ab ?_))))))))))))))))))
 refine AE (L := A0 N p0 p1 p2) h (fun v1 => mk [(0, pD (.sl (p0.map Ai))), (2, oD (.clo (Bb (Co true Ai true Ai) Bi p2))), (4, oD (.ptr 4 0)), (8, iD ((p0.length : Int))), (9, iD v1.1), (10, iD v1.2)] [(4, .box [sC (p1.fd.map Ak), sC (p1.fa.map Ak), sC (p1.fe.map Bn)])]) (fun v2 => mk [(0, pD (.sl (p0.map Ai))), (2, oD (.clo (Bb (Co true Ai true Ai) Bi p2))), (4, oD (.ptr 4 0)), (8, iD ((p0.length : Int))), (9, iD v2)] [(4, .box [sC (p1.fd.map Ak), sC (p1.fa.map Ak), sC (p1.fe.map Bn)])]) (fun _ _ => rfl) (sm [] _ _ rfl rfl) (fun j1 n1 v1 h => ?_) (fun v2 s h hs => ?_)
 ·unfold A0 at h
  refine Ab (Ab (Aa Ac rfl (qm rfl (qm rfl (AX rfl (Ae ?_))))))
  refine Ap rfl (fun c3 => ?_) (fun c3 => ?_)
  ·have h := Ao c3 h
   refine Aq (AK (Ab (Aa Ac rfl (qm rfl (qm rfl (AR rfl (GY Wr NE rfl (HI rfl (by decide) (GY N0 Ud rfl (qa rfl (Ae (Ab (Aa Ac rfl (qm rfl (qm rfl (qm rfl ?_))))))))))))))))
   obtain ⟨v4, a4, b4, h⟩ := Aj h
   refine qi AV Az a4 (Ag b4) rfl (qK A7 Az rfl (qL A7 Az rfl ?_))
   obtain ⟨v5, a5, h⟩ := bind_some h
   refine CF (ds0 := [_, _]) (ar := (Co true Ai true Ai) ((v4, p1))) (.p rfl) rfl rfl ⟨rfl, rfl, tv⟩ rfl rfl rfl (CH (Dd _ _ _ _ BI BI) a5) ?_
   refine AX rfl (AB (by kernel_rfl) ?_)
   refine Ap rfl (fun c6 => ?_) (fun c6 => ?_)
   ·have h := Ao c6 h
    refine Aa Ac rfl (qm rfl (AR rfl (qa rfl (Ae ?_))))
    exact Au _ h (sm [] _ _ rfl rfl)
   ·have h := An c6 h
    refine Aa Ac rfl (qm rfl (qa rfl (Ae ?_)))
    exact Au _ h (sm [] _ _ rfl rfl)
  ·have h := An c3 h
   refine AS ?_
   exact Au _ h (sm [] _ _ rfl rfl)
 ·refine Am hs ?_
  refine AO h (fun v7 => mk [(6, iD v2), (7, bD v7)] []) (fun j7 h => ?_) (fun v7 h => ?_)
  ·refine Aa Ac rfl (qm rfl (qm rfl (qm rfl (AX rfl (qm rfl ?_)))))
   refine AF (t := 39) rfl (fun c8 => ?_) (fun c8 => ?_)
   ·have h := Ao c8 h
    refine qm rfl (qm rfl (qm rfl ?_))
    obtain ⟨v9, a9, b9, h⟩ := Aj h
    refine qi AV Az a9 (Ag b9) rfl (qK A7 Az rfl (qL A7 Az rfl ?_))
    obtain ⟨v10, a10, h⟩ := bind_some h
    refine CF (ds0 := [_, _]) (ar := (Co true Ai true Ai) ((v9, p1))) (.g rfl rfl) rfl rfl ⟨rfl, rfl, tv⟩ rfl rfl rfl (CH (Dd _ _ _ _ BI BI) a10) ?_
    refine BK rfl (qp rfl (qa rfl (qa rfl (AB (by kernel_rfl) ?_))))
    exact Au _ h (sm [] _ _ rfl rfl)
   ·have h := An c8 h
    refine qn rfl (qn rfl (qn rfl (qn rfl (qn rfl (qn rfl (qn rfl (qn rfl (qp rfl (qa rfl (qa rfl (AB (by kernel_rfl) ?_)))))))))))
    exact Au _ h (sm [] _ _ rfl rfl)
  ·obtain rfl := sj h
   refine Am (sm [] [(6, iD v2), (7, bD v7)] [] rfl rfl) (AA ?_)
   exact ⟨⟨[_, _], ⟨.tmp _ _ rfl, ⟨.tmp _ _ rfl, tv⟩⟩, rfl⟩, tv⟩
theorem KD (N : Nat) (p0 : List Af) (p1 : Af) (r : Bool) (h : Fj N p0 p1 = some r) : AD Tryz.prog 47 [pD (.sl (p0.map Ai)), .e (.agg [sC (p1.fd.map Ak), sC (p1.fa.map Ak), sC (p1.fe.map Bn)])] [] (bD r) := by
 unfold Fj at h
 refine Av (n := 14) (rs := [.tmp 4]) Tryz.func47 rfl rfl rfl (A6 rfl) (A6 rfl) rfl fun w0 S0 => ?_
 refine Ab (Aa Ac rfl (qb rfl (qa rfl (Ae (Ab (Aa Ac rfl (qm rfl (qL A7 Az rfl ?_))))))))
 obtain ⟨v1, a1, h⟩ := bind_some h
 refine AJ [] (AD.weak (ds' := [pD (.sl (p0.map Ai)), .e (.agg [sC (p1.fd.map Ak), sC (p1.fa.map Ak), sC (p1.fe.map Bn)]), oD (.fnc 46)]) (Fu N p0 p1 ((fun (x : Af × Af) => BR N x.1 x.2)) v1 a1) ⟨(fun _ _ _ hh => hh), (fun _ _ _ hh => hh), (fun _ _ _ hh => Qg YL (fun ar t ht => by obtain ⟨x, r, rfl, hq, rfl⟩ := Ij ht; exact JR N x.1 x.2 r hq) hh), tv⟩) bt rfl ?_
 refine qm rfl (qx rfl (qx rfl (qa rfl (qa rfl (Ae (Ab (Aa Ac rfl (qm rfl (qa rfl (Ae ?_))))))))))
 obtain rfl := sj h
 refine Am (sm [] [(4, bD v1.2)] [] rfl rfl) (AA ?_)
 exact ⟨⟨[_], ⟨.tmp _ _ rfl, tv⟩, rfl⟩, tv⟩
theorem H2 (N : Nat) (p0 : Ah) (p1 : List Af) (r : Bool) (h : Ey N p0 p1 = some r) : AD Tryz.prog 15 [.e (.agg [sC (p0.fb.map Ak), sC (p0.ff.map Ak), sC (p0.fh.map Ak), sC (p0.fc.map Ar)]), pD (.sl (p1.map Ai))] [] (bD r) := by
 unfold Ey at h
 refine Av (n := 122) (rs := [.tmp 4]) Tryz.func15 rfl rfl rfl (A6 rfl) (A6 rfl) rfl fun w0 S0 => ?_
 refine Ab (Aa Ac rfl (qb rfl (qa rfl (Ae (Ab (Aa Ac rfl (qL DL Di rfl ?_)))))))
 obtain ⟨v1, a1, h⟩ := bind_some h
 refine AJ [2001, 2002, 2003] (Nt N p0 v1 a1) aL rfl (qm rfl (qx rfl (qx rfl (qz Cw rfl (qs Az rfl (qa rfl (Ae (Ab (Ab (Aa Ac rfl (qm rfl (Cp rfl (Ae ?_)))))))))))))
 refine Ap rfl (fun c2 => ?_) (fun c2 => ?_)
 ·have h := Ao c2 h
  refine Ab (Aa Ac rfl (qa rfl (Ae ?_)))
  obtain rfl := sj h
  refine Am (sm [] [(4, bD false)] [] rfl rfl) (AA ?_)
  exact ⟨⟨[_], ⟨.tmp _ _ rfl, tv⟩, rfl⟩, tv⟩
 ·have h := An c2 h
  refine Aq (Ab (Ab (Aa Ac rfl (qL DL Di rfl (qL A7 Az rfl ?_)))))
  obtain ⟨v3, a3, h⟩ := bind_some h
  refine Dj [] [2001, 2002, 2003] (H4 N p0 v1.1 v3 a3) V3 B4 rfl (qm rfl (qx rfl (qx rfl (qa rfl (qa rfl (Ae (Ab (Aa Ac rfl (qm rfl (BW rfl (Ae ?_)))))))))))
  refine Ap rfl (fun c4 => ?_) (fun c4 => ?_)
  ·have h := Ao c4 h
   refine Ab (Aa Ac rfl (qm rfl (A1 AV rfl (BK rfl (qa rfl (Ae ?_))))))
   obtain rfl := sj h
   refine Am (sm [] [(4, bD (((p1.length : Int) == 0)))] [] rfl rfl) (AA ?_)
   exact ⟨⟨[_], ⟨.tmp _ _ rfl, tv⟩, rfl⟩, tv⟩
  ·have h := An c4 h
   refine Aq (Ab (Ab (Aa Ac rfl (qm rfl (A1 AV rfl (qm rfl (Ae ?_)))))))
   refine AE (L := EH N p0 p1) h (fun v5 => mk [(1, pD (.sl (p1.map Ai))), (2, oD (.ptr 2 0)), (5, oD (.ptr 5 0)), (41, pD (.sl (p1.map Ai))), (42, iD ((p1.length : Int))), (43, iD v5)] [(2, .box [sC (p0.fb.map Ak), sC (p0.ff.map Ak), sC (p0.fh.map Ak), sC (p0.fc.map Ar)]), (5, .box [.own 2004, .own 2005, .own 2006]), (2004, .vec 1 (v1.1.fd.map Ak)), (2005, .vec 1 (v1.1.fa.map Ak)), (2006, .vec 1 (v1.1.fe.map Bn))]) (fun v6 => mk [(1, pD (.sl (p1.map Ai))), (2, oD (.ptr 2 0)), (5, oD (.ptr 5 0))] [(2, .box [sC (p0.fb.map Ak), sC (p0.ff.map Ak), sC (p0.fh.map Ak), sC (p0.fc.map Ar)]), (5, .box [.own 2007, .own 2008, .own 2009]), (2007, .vec 1 (v1.1.fd.map Ak)), (2008, .vec 1 (v1.1.fa.map Ak)), (2009, .vec 1 (v1.1.fe.map Bn))]) (fun _ _ => rfl) (sm [(2004, 2001), (2005, 2002), (2006, 2003)] _ _ rfl rfl) (fun j5 n5 v5 h => ?_) (fun v6 s h hs => ?_)
   ·unfold EH at h
    refine Ab (Aa Ac rfl (AX rfl (Ae (Ab ?_))))
    refine Ap rfl (fun c7 => ?_) (fun c7 => ?_)
    ·have h := Ao c7 h
     refine Aq (Ab (AK (Ab (Aa Ac rfl (qm rfl ?_)))))
     obtain ⟨v8, a8, b8, h⟩ := Aj h
     refine qi AV Az a8 (Ag b8) rfl (qK A7 Az rfl (qz Cw rfl (qa rfl (qs Az rfl (Ae (Ab ?_))))))
     refine AO h (fun v9 => mk [(1, pD (.sl (p1.map Ai))), (2, oD (.ptr 2 0)), (5, oD (.ptr 5 0)), (10, oD (.ptr 10 0)), (41, pD (.sl (p1.map Ai))), (42, iD ((p1.length : Int))), (43, iD v5), (59, bD v9)] [(2, .box [sC (p0.fb.map Ak), sC (p0.ff.map Ak), sC (p0.fh.map Ak), sC (p0.fc.map Ar)]), (5, .box [.own 2010, .own 2011, .own 2012]), (10, .box [sC (v8.fd.map Ak), sC (v8.fa.map Ak), sC (v8.fe.map Bn)]), (2010, .vec 1 (v1.1.fd.map Ak)), (2011, .vec 1 (v1.1.fa.map Ak)), (2012, .vec 1 (v1.1.fe.map Bn))]) (fun j9 h => ?_) (fun v9 h => ?_)
     ·refine Aa Ac rfl (qm rfl (E2 rfl (qm rfl ?_)))
      refine AF (t := 50) rfl (fun c10 => ?_) (fun c10 => ?_)
      ·have h := Ao c10 h
       refine qm rfl (qm rfl (Bm rfl ?_))
       obtain ⟨v11, a11, b11, h⟩ := Aj h
       refine qi AV Az a11 (Ag b11) rfl (qK A7 Az rfl (qL A7 Az rfl ?_))
       obtain ⟨v12, a12, h⟩ := bind_some h
       refine AJ [] (JR N v11 v8 v12 a12) YL rfl (Cz rfl (qp rfl (AB (by kernel_rfl) ?_)))
       exact Au _ h (sm [(2010, 2004), (2011, 2005), (2012, 2006)] _ _ rfl rfl)
      ·have h := An c10 h
       refine qn rfl (qn rfl (qn rfl (qn rfl (qn rfl (qn rfl (qn rfl (qn rfl (qp rfl (AB (by kernel_rfl) ?_)))))))))
       exact Au _ h (sm [(2010, 2004), (2011, 2005), (2012, 2006)] _ _ rfl rfl)
     ·refine Ap rfl (fun c13 => ?_) (fun c13 => ?_)
      ·have h := Ao c13 h
       refine Ab (Aa Ac rfl (qa rfl (Ae ?_)))
       obtain rfl := sj h
       refine Am (sm [] [(4, bD false)] [] rfl rfl) (AA ?_)
       exact ⟨⟨[_], ⟨.tmp _ _ rfl, tv⟩, rfl⟩, tv⟩
      ·have h := An c13 h
       refine Aq (Ab (Aa Ac rfl (qL DL Di rfl (qL A7 Az rfl ?_))))
       obtain ⟨v14, a14, h⟩ := bind_some h
       refine AJ [] (H4 N p0 v8 v14 a14) V3 rfl (qm rfl (qx rfl (qx rfl (qa rfl (qa rfl (Ae ?_))))))
       refine AO h (fun v15 => mk [(1, pD (.sl (p1.map Ai))), (2, oD (.ptr 2 0)), (5, oD (.ptr 5 0)), (41, pD (.sl (p1.map Ai))), (42, iD ((p1.length : Int))), (43, iD v5), (76, bD v15)] [(2, .box [sC (p0.fb.map Ak), sC (p0.ff.map Ak), sC (p0.fh.map Ak), sC (p0.fc.map Ar)]), (5, .box [.own 2013, .own 2014, .own 2015]), (2013, .vec 1 (v1.1.fd.map Ak)), (2014, .vec 1 (v1.1.fa.map Ak)), (2015, .vec 1 (v1.1.fe.map Bn))]) (fun j15 h => ?_) (fun v15 h => ?_)
       ·refine Aa Ac rfl (qm rfl (BW rfl (qm rfl ?_)))
        refine AF (t := 68) rfl (fun c16 => ?_) (fun c16 => ?_)
        ·have h := Ao c16 h
         refine qn rfl (qn rfl (qp rfl (qm rfl (qn rfl (qn rfl (qn rfl (qp rfl (Ae ?_))))))))
         exact Au _ h (sm [(2013, 2010), (2014, 2011), (2015, 2012)] _ _ rfl rfl)
        ·have h := An c16 h
         refine qm rfl (Cp rfl (qp rfl (qm rfl ?_)))
         refine AF (t := 72) rfl (fun c17 => ?_) (fun c17 => ?_)
         ·have h := Ao c17 h
          refine qn rfl (qn rfl (qn rfl (qp rfl (Ae ?_))))
          exact Au _ h (sm [(2013, 2010), (2014, 2011), (2015, 2012)] _ _ rfl rfl)
         ·have h := An c17 h
          refine qL DL Di rfl (qL A7 Az rfl ?_)
          obtain ⟨v18, a18, h⟩ := bind_some h
          refine AJ [] (O0 N p0 v8 v18 a18) ZC rfl (qp rfl (Ae ?_))
          exact Au _ h (sm [(2013, 2010), (2014, 2011), (2015, 2012)] _ _ rfl rfl)
       ·refine Ap rfl (fun c19 => ?_) (fun c19 => ?_)
        ·have h := Ao c19 h
         refine Ab (Aa Ac rfl (qa rfl (Ae ?_)))
         obtain rfl := sj h
         refine Am (sm [] [(4, bD false)] [] rfl rfl) (AA ?_)
         exact ⟨⟨[_], ⟨.tmp _ _ rfl, tv⟩, rfl⟩, tv⟩
        ·have h := An c19 h
         refine Aq (Aa Ac rfl (AR rfl (qm rfl (Ae ?_))))
         exact Au _ h (sm [(2004, 2013), (2005, 2014), (2006, 2015)] _ _ rfl rfl)
    ·have h := An c7 h
     refine AS ?_
     exact Au _ h (sm [(2007, 2004), (2008, 2005), (2009, 2006)] _ _ rfl rfl)
   ·refine Am hs (Ab (Ab (Aa Ac rfl (qm rfl (qL A7 Az rfl ?_)))))
    obtain ⟨v20, a20, h⟩ := bind_some h
    refine Dj [] [2007, 2008, 2009] (KD N p1 v1.1 v20 a20) ZV B4 rfl (BW rfl (Ae ?_))
    refine Ap rfl (fun c21 => ?_) (fun c21 => ?_)
    ·have h := Ao c21 h
     refine Ab (Aa Ac rfl (qa rfl (Ae ?_)))
     obtain rfl := sj h
     refine Am (sm [] [(4, bD false)] [] rfl rfl) (AA ?_)
     exact ⟨⟨[_], ⟨.tmp _ _ rfl, tv⟩, rfl⟩, tv⟩
    ·have h := An c21 h
     refine Aq (Ab (Ab (Aa Ac rfl (qm rfl (A1 AV rfl (qm rfl (Ae ?_)))))))
     refine AE (L := Ep N p0 p1) h (fun v22 => mk [(1, pD (.sl (p1.map Ai))), (2, oD (.ptr 2 0)), (82, pD (.sl (p1.map Ai))), (83, iD ((p1.length : Int))), (84, iD v22)] [(2, .box [sC (p0.fb.map Ak), sC (p0.ff.map Ak), sC (p0.fh.map Ak), sC (p0.fc.map Ar)])]) (fun v23 => mk [] []) (fun _ _ => rfl) (sm [] _ _ rfl rfl) (fun j22 n22 v22 h => ?_) (fun v23 s h hs => ?_)
     ·unfold Ep at h
      refine Ab (Aa Ac rfl (AX rfl (Ae (Ab ?_))))
      refine Ap rfl (fun c24 => ?_) (fun c24 => ?_)
      ·have h := Ao c24 h
       refine Aq (Ab (AK (Ab (Aa Ac rfl ?_))))
       obtain ⟨v25, a25, b25, h⟩ := Aj h
       refine qi AV Az a25 (Ag b25) rfl (qK A7 Az rfl (qz Cw rfl (qs Az rfl (Ae (Ab (Aa Ac rfl (qL DL Di rfl (qL A7 Az rfl ?_))))))))
       obtain ⟨v26, a26, h⟩ := bind_some h
       refine AJ [2016] (Jo N p0 v25 v26 a26) Yb rfl (qm rfl (qx rfl (qx rfl (qa rfl (qa rfl (Ae (Ab (Aa Ac rfl (qm rfl (EN Fm rfl (qm rfl (Ae ?_))))))))))))
       refine AE (L := Eo N p0 p1 v25 v26) h (fun v27 => mk [(1, pD (.sl (p1.map Ai))), (2, oD (.ptr 2 0)), (14, oD (.ptr 14 0)), (82, pD (.sl (p1.map Ai))), (83, iD ((p1.length : Int))), (84, iD v22), (94, oD (.own 2017)), (95, iD ((v26.1.length : Int))), (96, iD v27)] [(2, .box [sC (p0.fb.map Ak), sC (p0.ff.map Ak), sC (p0.fh.map Ak), sC (p0.fc.map Ar)]), (14, .box [sC (v25.fd.map Ak), sC (v25.fa.map Ak), sC (v25.fe.map Bn)]), (2017, .vec 3 (v26.1.map A4))]) (fun v28 => mk [(1, pD (.sl (p1.map Ai))), (2, oD (.ptr 2 0)), (82, pD (.sl (p1.map Ai))), (83, iD ((p1.length : Int))), (84, iD v22)] [(2, .box [sC (p0.fb.map Ak), sC (p0.ff.map Ak), sC (p0.fh.map Ak), sC (p0.fc.map Ar)])]) (fun _ _ => rfl) (sm [(2017, 2016)] _ _ rfl rfl) (fun j27 n27 v27 h => ?_) (fun v28 s h hs => ?_)
       ·unfold Eo at h
        refine Ab (Aa Ac rfl (AX rfl (Ae (Ab ?_))))
        refine Ap rfl (fun c29 => ?_) (fun c29 => ?_)
        ·have h := Ao c29 h
         refine Aq (Ab (AK (Ab (Aa Ac rfl ?_))))
         obtain ⟨v30, a30, b30, h⟩ := Aj h
         refine qI Fm Fb a30 (Ag b30) rfl (qJ I0 Fb (Ag b30) rfl (qz JU rfl (qs Fb rfl (Ae (Ab (Aa Ac rfl (qL DL Di rfl (qL A7 Az rfl (qL I0 Fb rfl ?_)))))))))
         obtain ⟨v31, a31, h⟩ := bind_some h
         refine AJ [2018, 2019, 2020] (Km N p0 v25 v30 v31 a31) Yo rfl (qm rfl (qx rfl (qx rfl (qz Cw rfl (qs Az rfl (qa rfl (Ae (Ab (Aa Ac rfl (qL DL Di rfl (qL A7 Az rfl ?_)))))))))))
         obtain ⟨v32, a32, h⟩ := bind_some h
         refine Dj [] [2018, 2019, 2020] (H4 N p0 v31.1 v32 a32) V3 B4 rfl (qm rfl (qx rfl (qx rfl (qa rfl (qa rfl (Ae ?_))))))
         refine AO h (fun v33 => mk [(1, pD (.sl (p1.map Ai))), (2, oD (.ptr 2 0)), (14, oD (.ptr 14 0)), (82, pD (.sl (p1.map Ai))), (83, iD ((p1.length : Int))), (84, iD v22), (94, oD (.own 2021)), (95, iD ((v26.1.length : Int))), (96, iD v27), (119, bD v33)] [(2, .box [sC (p0.fb.map Ak), sC (p0.ff.map Ak), sC (p0.fh.map Ak), sC (p0.fc.map Ar)]), (14, .box [sC (v25.fd.map Ak), sC (v25.fa.map Ak), sC (v25.fe.map Bn)]), (2021, .vec 3 (v26.1.map A4))]) (fun j33 h => ?_) (fun v33 h => ?_)
         ·refine Aa Ac rfl (qm rfl (qm rfl ?_))
          refine AF (t := 114) rfl (fun c34 => ?_) (fun c34 => ?_)
          ·have h := Ao c34 h
           refine qm rfl (qL A7 Az rfl ?_)
           obtain ⟨v35, a35, h⟩ := bind_some h
           refine Dj [] [2018, 2019, 2020] (KD N p1 v31.1 v35 a35) ZV B4 rfl (BW rfl (qp rfl (Ae ?_)))
           exact Au _ h (sm [(2021, 2017)] _ _ rfl rfl)
          ·have h := An c34 h
           refine qn rfl (qn rfl (qn rfl (qn rfl (qp rfl (Ae ?_)))))
           exact Au _ h (sm [(2021, 2017)] _ _ rfl rfl)
         ·refine Ap rfl (fun c36 => ?_) (fun c36 => ?_)
          ·have h := Ao c36 h
           refine Ab (Aa Ac rfl (qa rfl (Ae ?_)))
           obtain rfl := sj h
           refine Am (sm [] [(4, bD false)] [] rfl rfl) (AA ?_)
           exact ⟨⟨[_], ⟨.tmp _ _ rfl, tv⟩, rfl⟩, tv⟩
          ·have h := An c36 h
           refine Aq (Aa Ac rfl (AR rfl (qm rfl (Ae ?_))))
           exact Au _ h (sm [(2017, 2021)] _ _ rfl rfl)
        ·have h := An c29 h
         refine AS ?_
         exact Au _ h (sm [] _ _ rfl rfl)
       ·refine Am hs (Aa Ac rfl (AR rfl (qm rfl (Ae ?_))))
        exact Au _ h (sm [] _ _ rfl rfl)
      ·have h := An c24 h
       refine AS ?_
       exact Au _ h (sm [] _ _ rfl rfl)
     ·refine Am hs (Ab (Aa Ac rfl (qa rfl (Ae ?_))))
      obtain rfl := sj h
      refine Am (sm [] [(4, bD true)] [] rfl rfl) (AA ?_)
      exact ⟨⟨[_], ⟨.tmp _ _ rfl, tv⟩, rfl⟩, tv⟩
theorem JQ (N : Nat) (p0 : List Al) (p1 : List Al) (r : Bool) (h : Fw N p0 p1 = some r) : AD Tryz.prog 24 [pD (.sl (p0.map Ad)), pD (.sl (p1.map Ad))] [] (bD r) := by
 unfold Fw at h
 refine Av (n := 26) (rs := [.tmp 4]) Tryz.func24 rfl rfl rfl (A6 rfl) (A6 rfl) rfl fun w0 S0 => ?_
 refine Ab (Aa Ac rfl (qa rfl (Ae (Ab (Ab (Aa Ac rfl (qm rfl (A1 Ba rfl (qm rfl (A1 Ba rfl (Cp rfl (Ae ?_))))))))))))
 refine Ap rfl (fun c1 => ?_) (fun c1 => ?_)
 ·have h := Ao c1 h
  refine Ab (Aa Ac rfl (qa rfl (Ae ?_)))
  obtain rfl := sj h
  refine Am (sm [] [(4, bD false)] [] rfl rfl) (AA ?_)
  exact ⟨⟨[_], ⟨.tmp _ _ rfl, tv⟩, rfl⟩, tv⟩
 ·have h := An c1 h
  refine Aq (Ab (Ab (Aa Ac rfl (qa rfl (Ae ?_)))))
  refine AE (L := DX N p0 p1) h (fun v2 => mk [(0, pD (.sl (p0.map Ad))), (1, pD (.sl (p1.map Ad))), (5, iD v2)] []) (fun v3 => mk [] []) (fun _ _ => rfl) (sm [] _ _ rfl rfl) (fun j2 n2 v2 h => ?_) (fun v3 s h hs => ?_)
  ·unfold DX at h
   refine Ab (Ab (Aa Ac rfl (qm rfl (qm rfl (A1 Ba rfl (AX rfl (Ae ?_)))))))
   refine Ap rfl (fun c4 => ?_) (fun c4 => ?_)
   ·have h := Ao c4 h
    refine Aq (Ab (AK (Ab (Aa Ac rfl (qm rfl (qm rfl ?_))))))
    obtain ⟨v5, a5, b5, h⟩ := Aj h
    refine qi Ba A2 a5 (Ag b5) rfl (qK Do A2 rfl (qm rfl (qm rfl ?_)))
    obtain ⟨v6, a6, b6, h⟩ := Aj h
    refine qi Ba A2 a6 (Ag b6) rfl (qK Do A2 rfl ?_)
    refine X2 [.int .i64 v5.fr, .int .i64 v5.ft, .int .i64 v5.fu] [.int .i64 v6.fr, .int .i64 v6.ft, .int .i64 v6.fu] (.p rfl) rfl rfl Tu rfl ?_
    refine AB (by kernel_rfl) ?_
    refine Ap rfl (fun c7 => ?_) (fun c7 => ?_)
    ·have h := Ao c7 h
     refine Ab (Aa Ac rfl (qa rfl (Ae ?_)))
     obtain rfl := sj h
     refine Am (sm [] [(4, bD false)] [] rfl rfl) (AA ?_)
     exact ⟨⟨[_], ⟨.tmp _ _ rfl, tv⟩, rfl⟩, tv⟩
    ·have h := An c7 h
     refine Aq (Aa Ac rfl (qm rfl (AR rfl (qa rfl (Ae ?_)))))
     exact Au _ h (sm [] _ _ rfl rfl)
   ·have h := An c4 h
    refine AS ?_
    exact Au _ h (sm [] _ _ rfl rfl)
  ·refine Am hs (Ab (Aa Ac rfl (qa rfl (Ae ?_))))
   obtain rfl := sj h
   refine Am (sm [] [(4, bD true)] [] rfl rfl) (AA ?_)
   exact ⟨⟨[_], ⟨.tmp _ _ rfl, tv⟩, rfl⟩, tv⟩
theorem IP (N : Nat) (r : Bool) (h : Eb N = some r) : AD Tryz.prog 11 [] [] (bD r) := by
 unfold Eb at h
 refine Av (n := 123) (rs := [.tmp 0]) Tryz.func11 rfl rfl rfl (A6 rfl) (A6 rfl) rfl fun w0 S0 => ?_
 refine Ab (Aa Ac rfl (qa rfl (Ae (Ab (Aa Ac rfl (DY AL Du KI rfl (DY AL Du KI rfl (DY Dr F5 Ob rfl (Bz Cw HB rfl (qz Cw rfl (qs Az rfl (Ae (Ab (Aa Ac rfl (DY AL Du KI rfl (DY AL Du KI rfl (DY Dr F5 Ob rfl (Bz Cw HB rfl (qz Cw rfl (qs Az rfl (Ae (Ab (Aa Ac rfl ?_)))))))))))))))))))))))
 obtain ⟨v1, a1, h⟩ := bind_some h
 refine AJ [2001, 2002, 2003, 2004] (Dh N v1 a1) S4 rfl (DT (Bk 2001 _ _ rfl rfl) (DT (Bk 2002 _ _ rfl rfl) (DT (Bk 2003 _ _ rfl rfl) (DT (Bk 2004 _ _ rfl rfl) ?_))))
 obtain ⟨v2, a2, h⟩ := bind_some h
 refine AJ [2005] (Lf N v1 v2 a2) Y7 rfl (qm rfl (qx rfl (qx rfl (qa rfl (qa rfl (Ae (Ab (Aa Ac rfl ?_))))))))
 obtain ⟨v3, a3, h⟩ := bind_some h
 refine AJ [2006, 2007, 2008, 2009] (Dh N v3 a3) S4 rfl (qm rfl (DT (Bk 2006 _ _ rfl rfl) (DT (Bk 2007 _ _ rfl rfl) (DT (Bk 2008 _ _ rfl rfl) (DT (Bk 2009 _ _ rfl rfl) (DT (Bk 2005 _ _ rfl rfl) ?_))))))
 obtain ⟨v4, a4, h⟩ := bind_some h
 refine AJ [2010] (KC N v3 v2.1 v4 a4) Y2 rfl (qm rfl (qx rfl (qx rfl (qa rfl (qa rfl (Ae (Ab (Aa Ac rfl ?_))))))))
 obtain ⟨v5, a5, h⟩ := bind_some h
 refine AJ [2011, 2012, 2013, 2014] (Dh N v5 a5) S4 rfl (qm rfl ?_)
 obtain ⟨v6, a6, h⟩ := bind_some h
 refine Dj [2015] [2011, 2012, 2013, 2014] (MV N v5 v2.1 v6 a6) bz (Jr (fun _ => rfl) B4) rfl (qm rfl (qx rfl (qx rfl (qa rfl (qa rfl (Ae (Ab (Aa Ac rfl ?_))))))))
 obtain ⟨v7, a7, h⟩ := bind_some h
 refine AJ [2016, 2017, 2018, 2019] (Dh N v7 a7) S4 rfl (qm rfl ?_)
 obtain ⟨v8, a8, h⟩ := bind_some h
 refine Dj [2020, 2021, 2022] [2016, 2017, 2018, 2019] (Na N v7 v2.1 v8 a8) bg (Jr (fun _ => rfl) (Jr (fun _ => rfl) (Jr (fun _ => rfl) B4))) rfl (qm rfl (qx rfl (qx rfl (qx rfl (qz Cw rfl (qa rfl (qs Az rfl (qa rfl (Ae (Ab (Aa Ac rfl (Bz Jk SN rfl (qz Jk rfl (qs A2 rfl (Ae ?_)))))))))))))))
 refine AO h (fun v9 => mk [(1, oD (.ptr 1 0)), (2, oD (.ptr 2 0)), (3, pD (.sl (v2.1.map Ai))), (5, oD (.own 2032)), (7, oD (.own 2033)), (9, iD v8.1), (10, oD (.ptr 10 0)), (12, oD (.ptr 12 0)), (13, bD v9)] [(1, .box [.own 2023, .own 2024, .own 2025]), (2, .box [.own 2026, .own 2027, .own 2028]), (10, .box [.own 2029, .own 2030, .own 2031]), (12, .box [iC 0, iC 1, iC 0]), (2023, .vec 1 ((([0] : List Int)).map Ak)), (2024, .vec 1 ((([(-1)] : List Int)).map Ak)), (2025, .vec 1 ((([0] : List Int)).map Bn)), (2026, .vec 1 ((([1] : List Int)).map Ak)), (2027, .vec 1 ((([(-1)] : List Int)).map Ak)), (2028, .vec 1 ((([0] : List Int)).map Bn)), (2029, .vec 1 (v8.2.1.fd.map Ak)), (2030, .vec 1 (v8.2.1.fa.map Ak)), (2031, .vec 1 (v8.2.1.fe.map Bn)), (2032, .vec 9 (v4.1.map D9)), (2033, .vec 3 (v6.1.map Ad))]) (fun j9 h => ?_) (fun v9 h => ?_)
 ·refine Aa Ac rfl (qm rfl (BK rfl (qm rfl ?_)))
  refine AF (t := 49) rfl (fun c10 => ?_) (fun c10 => ?_)
  ·have h := Ao c10 h
   refine qm rfl (BK rfl (qp rfl (qm rfl ?_)))
   refine AF (t := 53) rfl (fun c11 => ?_) (fun c11 => ?_)
   ·have h := Ao c11 h
    refine qm rfl (BK rfl (qp rfl (qm rfl ?_)))
    refine AF (t := 57) rfl (fun c12 => ?_) (fun c12 => ?_)
    ·have h := Ao c12 h
     refine qm rfl (BK rfl (qp rfl (qa rfl (Ae ?_))))
     exact Au _ h (sm [(2023, 14), (2024, 15), (2025, 16), (2026, 18), (2027, 19), (2028, 20), (2029, 2020), (2030, 2021), (2031, 2022), (2032, 2010), (2033, 2015)] _ _ rfl rfl)
    ·have h := An c12 h
     refine qn rfl (qn rfl (qp rfl (qa rfl (Ae ?_))))
     exact Au _ h (sm [(2023, 14), (2024, 15), (2025, 16), (2026, 18), (2027, 19), (2028, 20), (2029, 2020), (2030, 2021), (2031, 2022), (2032, 2010), (2033, 2015)] _ _ rfl rfl)
   ·have h := An c11 h
    refine qn rfl (qn rfl (qp rfl (qm rfl (qn rfl (qn rfl (qp rfl (qa rfl (Ae ?_))))))))
    exact Au _ h (sm [(2023, 14), (2024, 15), (2025, 16), (2026, 18), (2027, 19), (2028, 20), (2029, 2020), (2030, 2021), (2031, 2022), (2032, 2010), (2033, 2015)] _ _ rfl rfl)
  ·have h := An c10 h
   refine qn rfl (qn rfl (qp rfl (qm rfl (qn rfl (qn rfl (qp rfl (qm rfl (qn rfl (qn rfl (qp rfl (qa rfl (Ae ?_))))))))))))
   exact Au _ h (sm [(2023, 14), (2024, 15), (2025, 16), (2026, 18), (2027, 19), (2028, 20), (2029, 2020), (2030, 2021), (2031, 2022), (2032, 2010), (2033, 2015)] _ _ rfl rfl)
 ·refine AO h (fun v13 => mk [(1, oD (.ptr 1 0)), (5, oD (.own 2037)), (7, oD (.own 2038)), (9, iD v8.1), (10, oD (.ptr 10 0)), (12, oD (.ptr 12 0)), (13, bD v13)] [(1, .box [sC ((([0] : List Int)).map Ak), sC ((([(-1)] : List Int)).map Ak), sC ((([0] : List Int)).map Bn)]), (10, .box [.own 2034, .own 2035, .own 2036]), (12, .box [iC 0, iC 1, iC 0]), (2034, .vec 1 (v8.2.1.fd.map Ak)), (2035, .vec 1 (v8.2.1.fa.map Ak)), (2036, .vec 1 (v8.2.1.fe.map Bn)), (2037, .vec 9 (v4.1.map D9)), (2038, .vec 3 (v6.1.map Ad))]) (fun j13 h => ?_) (fun v13 h => ?_)
  ·refine Am (Bk 2023 _ _ rfl rfl) (Am (Bk 2024 _ _ rfl rfl) (Am (Bk 2025 _ _ rfl rfl) (Am (Bk 2026 _ _ rfl rfl) (Am (Bk 2027 _ _ rfl rfl) (Am (Bk 2028 _ _ rfl rfl) (Aa Ac rfl (qm rfl (qm rfl ?_))))))))
   refine AF (t := 62) rfl (fun c14 => ?_) (fun c14 => ?_)
   ·have h := Ao c14 h
    refine qm rfl (qL A7 Az rfl (DY AV Az Cw rfl ?_))
    obtain ⟨v15, a15, h⟩ := bind_some h
    refine Dj [] [65] (Jg N v2.1 (([(Af.mk (([0] : List Int)) (([(-1)] : List Int)) (([0] : List Int)))] : List Af)) v15 a15) ai B4 rfl (qp rfl (qm rfl ?_))
    refine AF (t := 68) rfl (fun c16 => ?_) (fun c16 => ?_)
    ·have h := Ao c16 h
     obtain ⟨v17, a17, h⟩ := bind_some h
     refine AJ [2039, 2040, 2041, 2042] (Dh N v17 a17) S4 rfl (qm rfl ?_)
     obtain ⟨v18, a18, h⟩ := bind_some h
     refine Dj [] [2039, 2040, 2041, 2042] (H2 N v17 v2.1 v18 a18) WQ B4 rfl (qp rfl (qm rfl ?_))
     refine AF (t := 73) rfl (fun c19 => ?_) (fun c19 => ?_)
     ·have h := Ao c19 h
      obtain ⟨v20, a20, h⟩ := bind_some h
      refine AJ [2043, 2044, 2045, 2046] (Dh N v20 a20) S4 rfl ?_
      obtain ⟨v21, a21, h⟩ := bind_some h
      refine Dj [] [2043, 2044, 2045, 2046] (H2 N v20 (([] : List Af)) v21 a21) WQ B4 rfl (BW rfl (qp rfl (qm rfl ?_)))
      refine AF (t := 78) rfl (fun c22 => ?_) (fun c22 => ?_)
      ·have h := Ao c22 h
       obtain ⟨v23, a23, h⟩ := bind_some h
       refine AJ [2047, 2048, 2049, 2050] (Dh N v23 a23) S4 rfl (qL A7 Az rfl (qL A7 Az rfl (DY AV Az Cw rfl ?_)))
       obtain ⟨v24, a24, h⟩ := bind_some h
       refine Dj [] [2047, 2048, 2049, 2050, 82] (H2 N v23 (([(Af.mk (([0] : List Int)) (([(-1)] : List Int)) (([0] : List Int))), (Af.mk (([1] : List Int)) (([(-1)] : List Int)) (([0] : List Int)))] : List Af)) v24 a24) WQ B4 rfl (BW rfl (qp rfl (qa rfl (AB (by kernel_rfl) ?_))))
       exact Au _ h (sm [(2034, 2029), (2035, 2030), (2036, 2031), (2037, 2032), (2038, 2033)] _ _ rfl rfl)
      ·have h := An c22 h
       refine qn rfl (qn rfl (qn rfl (qn rfl (qn rfl (qn rfl (qp rfl (qa rfl (AB (by kernel_rfl) ?_))))))))
       exact Au _ h (sm [(2034, 2029), (2035, 2030), (2036, 2031), (2037, 2032), (2038, 2033)] _ _ rfl rfl)
     ·have h := An c19 h
      refine qn rfl (qn rfl (qn rfl (qp rfl (qm rfl (qn rfl (qn rfl (qn rfl (qn rfl (qn rfl (qn rfl (qp rfl (qa rfl (AB (by kernel_rfl) ?_)))))))))))))
      exact Au _ h (sm [(2034, 2029), (2035, 2030), (2036, 2031), (2037, 2032), (2038, 2033)] _ _ rfl rfl)
    ·have h := An c16 h
     refine qn rfl (qn rfl (qn rfl (qp rfl (qm rfl (qn rfl (qn rfl (qn rfl (qp rfl (qm rfl (qn rfl (qn rfl (qn rfl (qn rfl (qn rfl (qn rfl (qp rfl (qa rfl (AB (by kernel_rfl) ?_))))))))))))))))))
     exact Au _ h (sm [(2034, 2029), (2035, 2030), (2036, 2031), (2037, 2032), (2038, 2033)] _ _ rfl rfl)
   ·have h := An c14 h
    refine qn rfl (qn rfl (qn rfl (qn rfl (qp rfl (qm rfl (qn rfl (qn rfl (qn rfl (qp rfl (qm rfl (qn rfl (qn rfl (qn rfl (qp rfl (qm rfl (qn rfl (qn rfl (qn rfl (qn rfl (qn rfl (qn rfl (qp rfl (qa rfl (AB (by kernel_rfl) ?_))))))))))))))))))))))))
    exact Au _ h (sm [(2034, 2029), (2035, 2030), (2036, 2031), (2037, 2032), (2038, 2033)] _ _ rfl rfl)
  ·refine AO h (fun v25 => mk [(0, bD v25)] []) (fun j25 h => ?_) (fun v25 h => ?_)
   ·refine Aa Ac rfl (qm rfl (qm rfl ?_))
    refine AF (t := 87) rfl (fun c26 => ?_) (fun c26 => ?_)
    ·have h := Ao c26 h
     refine qm rfl (EN LG rfl (BK rfl (qp rfl (qm rfl ?_))))
     refine AF (t := 92) rfl (fun c27 => ?_) (fun c27 => ?_)
     ·have h := Ao c27 h
      refine qm rfl ?_
      obtain ⟨v28, a28, b28, h⟩ := Aj h
      refine qI LG RE a28 (Ag b28) rfl (qh WU rfl ?_)
      refine Q3 (.g rfl rfl) rfl I0 Fb rfl (Ag b28) rfl rfl (by decide) ?_
      refine Bz JU U3 rfl ?_
      refine VS [.int .i64 v28.fy.fg, .int .i64 v28.fy.fj, .int .i64 v28.fy.fo] [.int .i64 1, .int .i64 0, .int .i64 1] (.g rfl rfl) rfl rfl Zj rfl ?_
      refine qp rfl (qm rfl ?_)
      refine AF (t := 100) rfl (fun c29 => ?_) (fun c29 => ?_)
      ·have h := Ao c29 h
       refine qm rfl ?_
       obtain ⟨v30, a30, b30, h⟩ := Aj h
       refine qI LG RE a30 (Ag b30) rfl (qh TP rfl ?_)
       refine Q3 (.g rfl rfl) rfl Do A2 rfl (Ag b30) rfl rfl (by decide) ?_
       refine qL Do A2 rfl ?_
       refine VS [.int .i64 v30.fw.fr, .int .i64 v30.fw.ft, .int .i64 v30.fw.fu] [.int .i64 0, .int .i64 1, .int .i64 0] (.g rfl rfl) rfl rfl Tu rfl ?_
       refine qp rfl (qm rfl ?_)
       refine AF (t := 108) rfl (fun c31 => ?_) (fun c31 => ?_)
       ·have h := Ao c31 h
        refine qm rfl (qL Do A2 rfl (DY Ba A2 Jk rfl ?_))
        obtain ⟨v32, a32, h⟩ := bind_some h
        refine Dj [] [2038, 111] (JQ N v6.1 (([(Al.mk 0 1 0)] : List Al)) v32 a32) cb B4 rfl (qp rfl (qm rfl ?_))
        refine AF (t := 114) rfl (fun c33 => ?_) (fun c33 => ?_)
        ·have h := Ao c33 h
         refine qm rfl (BK rfl (qp rfl (qm rfl ?_)))
         refine AF (t := 118) rfl (fun c34 => ?_) (fun c34 => ?_)
         ·have h := Ao c34 h
          refine qL A7 Az rfl (qL A7 Az rfl ?_)
          obtain ⟨v35, a35, h⟩ := bind_some h
          refine Dj [] [2034, 2035, 2036] (IM N v8.2.1 ((Af.mk (([0] : List Int)) (([(-1)] : List Int)) (([0] : List Int)))) v35 a35) Y9 B4 rfl (qp rfl (qa rfl (AB (by kernel_rfl) ?_)))
          exact Au _ h (sm [] _ _ rfl rfl)
         ·have h := An c34 h
          refine qn rfl (qn rfl (qn rfl (qp rfl (qa rfl (AB (by kernel_rfl) ?_)))))
          exact Au _ h (sm [] _ _ rfl rfl)
        ·have h := An c33 h
         refine qn rfl (qn rfl (qp rfl (qm rfl (qn rfl (qn rfl (qn rfl (qp rfl (qa rfl (AB (by kernel_rfl) ?_)))))))))
         exact Au _ h (sm [] _ _ rfl rfl)
       ·have h := An c31 h
        refine qn rfl (qn rfl (qn rfl (qn rfl (qp rfl (qm rfl (qn rfl (qn rfl (qp rfl (qm rfl (qn rfl (qn rfl (qn rfl (qp rfl (qa rfl (AB (by kernel_rfl) ?_)))))))))))))))
        exact Au _ h (sm [] _ _ rfl rfl)
      ·have h := An c29 h
       refine qn rfl (qn rfl (qn rfl (qn rfl (qn rfl (qn rfl (qp rfl (qm rfl (qn rfl (qn rfl (qn rfl (qn rfl (qp rfl (qm rfl (qn rfl (qn rfl (qp rfl (qm rfl (qn rfl (qn rfl (qn rfl (qp rfl (qa rfl (AB (by kernel_rfl) ?_)))))))))))))))))))))))
       exact Au _ h (sm [] _ _ rfl rfl)
     ·have h := An c27 h
      refine qn rfl (qn rfl (qn rfl (qn rfl (qn rfl (qn rfl (qp rfl (qm rfl (qn rfl (qn rfl (qn rfl (qn rfl (qn rfl (qn rfl (qp rfl (qm rfl (qn rfl (qn rfl (qn rfl (qn rfl (qp rfl (qm rfl (qn rfl (qn rfl (qp rfl (qm rfl (qn rfl (qn rfl (qn rfl (qp rfl (qa rfl (AB (by kernel_rfl) ?_)))))))))))))))))))))))))))))))
      exact Au _ h (sm [] _ _ rfl rfl)
    ·have h := An c26 h
     refine qn rfl (qn rfl (qn rfl (qp rfl (qm rfl (qn rfl (qn rfl (qn rfl (qn rfl (qn rfl (qn rfl (qp rfl (qm rfl (qn rfl (qn rfl (qn rfl (qn rfl (qn rfl (qn rfl (qp rfl (qm rfl (qn rfl (qn rfl (qn rfl (qn rfl (qp rfl (qm rfl (qn rfl (qn rfl (qp rfl (qm rfl (qn rfl (qn rfl (qn rfl (qp rfl (qa rfl (AB (by kernel_rfl) ?_))))))))))))))))))))))))))))))))))))
     exact Au _ h (sm [] _ _ rfl rfl)
   ·obtain rfl := sj h
    refine Am (sm [] [(0, bD v25)] [] rfl rfl) (AA ?_)
    exact ⟨⟨[_], ⟨.tmp _ _ rfl, tv⟩, rfl⟩, tv⟩
theorem L0 (N : Nat) (p0 : Ah) (p1 : Af) (r : Bool) (h : E9 N p0 p1 = some r) : AD Tryz.prog 43 [.e (.agg [sC (p0.fb.map Ak), sC (p0.ff.map Ak), sC (p0.fh.map Ak), sC (p0.fc.map Ar)]), .e (.agg [sC (p1.fd.map Ak), sC (p1.fa.map Ak), sC (p1.fe.map Bn)])] [] (bD r) := by
 unfold E9 at h
 refine Av (n := 36) (rs := [.tmp 4]) Tryz.func43 rfl rfl rfl (A6 rfl) (A6 rfl) rfl fun w0 S0 => ?_
 refine Ab (Aa Ac rfl (qb rfl (qb rfl (qa rfl (Ae (Ab (Ab (Aa Ac rfl (qL DL Di rfl (qL A7 Az rfl ?_))))))))))
 obtain ⟨v1, a1, h⟩ := bind_some h
 refine AJ [] (IK N p0 p1 v1 a1) az rfl (Cp rfl (Ae ?_))
 refine Ap rfl (fun c2 => ?_) (fun c2 => ?_)
 ·have h := Ao c2 h
  refine Ab (Aa Ac rfl (qa rfl (Ae ?_)))
  obtain rfl := sj h
  refine Am (sm [] [(4, bD false)] [] rfl rfl) (AA ?_)
  exact ⟨⟨[_], ⟨.tmp _ _ rfl, tv⟩, rfl⟩, tv⟩
 ·have h := An c2 h
  refine Aq (Ab (Ab (Aa Ac rfl (qa rfl (Ae ?_)))))
  refine AE (L := C9 N p0 p1) h (fun v3 => mk [(2, oD (.ptr 2 0)), (3, oD (.ptr 3 0)), (5, iD v3)] [(2, .box [sC (p0.fb.map Ak), sC (p0.ff.map Ak), sC (p0.fh.map Ak), sC (p0.fc.map Ar)]), (3, .box [sC (p1.fd.map Ak), sC (p1.fa.map Ak), sC (p1.fe.map Bn)])]) (fun v4 => mk [] []) (fun _ _ => rfl) (sm [] _ _ rfl rfl) (fun j3 n3 v3 h => ?_) (fun v4 s h hs => ?_)
  ·unfold C9 at h
   refine Ab (Ab (Aa Ac rfl (qm rfl (qf CO rfl (ql Bo rfl (A1 AL rfl (AX rfl (Ae ?_))))))))
   refine Ap rfl (fun c5 => ?_) (fun c5 => ?_)
   ·have h := Ao c5 h
    refine Aq (Ab (AK ?_))
    refine AO h (fun v6 => mk [(2, oD (.ptr 2 0)), (3, oD (.ptr 3 0)), (5, iD v3), (35, bD v6)] [(2, .box [sC (p0.fb.map Ak), sC (p0.ff.map Ak), sC (p0.fh.map Ak), sC (p0.fc.map Ar)]), (3, .box [sC (p1.fd.map Ak), sC (p1.fa.map Ak), sC (p1.fe.map Bn)])]) (fun j6 h => ?_) (fun v6 h => ?_)
    ·refine Aa Ac rfl (qf BH rfl (ql Bo rfl (qm rfl ?_)))
     obtain ⟨v7, a7, b7, h⟩ := Aj h
     refine qi AL Du a7 (Ag b7) rfl (qk Cm rfl (Cz rfl (qm rfl ?_)))
     refine AF (t := 23) rfl (fun c8 => ?_) (fun c8 => ?_)
     ·have h := Ao c8 h
      refine qn rfl (qn rfl (qn rfl (qn rfl (qn rfl (qn rfl (qn rfl (qn rfl (qn rfl (qn rfl (qn rfl (qp rfl (AB (by kernel_rfl) ?_))))))))))))
      exact Au _ h (sm [] _ _ rfl rfl)
     ·have h := An c8 h
      refine qf CO rfl (ql Bo rfl (qm rfl ?_))
      obtain ⟨v9, a9, b9, h⟩ := Aj h
      refine qi AL Du a9 (Ag b9) rfl (qk Cm rfl (qf Ip rfl (ql Bo rfl (qm rfl ?_))))
      obtain ⟨v10, a10, b10, h⟩ := Aj h
      refine qi AL Du a10 (Ag b10) rfl (qk Cm rfl (Cp rfl (qp rfl (AB (by kernel_rfl) ?_))))
      exact Au _ h (sm [] _ _ rfl rfl)
    ·refine Ap rfl (fun c11 => ?_) (fun c11 => ?_)
     ·have h := Ao c11 h
      refine Ab (Aa Ac rfl (qa rfl (Ae ?_)))
      obtain rfl := sj h
      refine Am (sm [] [(4, bD false)] [] rfl rfl) (AA ?_)
      exact ⟨⟨[_], ⟨.tmp _ _ rfl, tv⟩, rfl⟩, tv⟩
     ·have h := An c11 h
      refine Aq (Aa Ac rfl (qm rfl (AR rfl (qa rfl (Ae ?_)))))
      exact Au _ h (sm [] _ _ rfl rfl)
   ·have h := An c5 h
    refine AS ?_
    exact Au _ h (sm [] _ _ rfl rfl)
  ·refine Am hs (Ab (Aa Ac rfl (qa rfl (Ae ?_))))
   obtain rfl := sj h
   refine Am (sm [] [(4, bD true)] [] rfl rfl) (AA ?_)
   exact ⟨⟨[_], ⟨.tmp _ _ rfl, tv⟩, rfl⟩, tv⟩
theorem KG (N : Nat) (p0 : Ah) (p1 : List Af) (r : Bool) (h : Em N p0 p1 = some r) : AD Tryz.prog 13 [.e (.agg [sC (p0.fb.map Ak), sC (p0.ff.map Ak), sC (p0.fh.map Ak), sC (p0.fc.map Ar)]), pD (.sl (p1.map Ai))] [] (bD r) := by
 unfold Em at h
 refine Av (n := 18) (rs := [.tmp 4]) Tryz.func13 rfl rfl rfl (A6 rfl) (A6 rfl) rfl fun w0 S0 => ?_
 refine Ab (Aa Ac rfl (qb rfl (qa rfl (Ae (Ab (Ab (Aa Ac rfl (qa rfl (Ae ?_)))))))))
 refine AE (L := C5 N p0 p1) h (fun v1 => mk [(1, pD (.sl (p1.map Ai))), (2, oD (.ptr 2 0)), (5, iD v1)] [(2, .box [sC (p0.fb.map Ak), sC (p0.ff.map Ak), sC (p0.fh.map Ak), sC (p0.fc.map Ar)])]) (fun v2 => mk [] []) (fun _ _ => rfl) (sm [] _ _ rfl rfl) (fun j1 n1 v1 h => ?_) (fun v2 s h hs => ?_)
 ·unfold C5 at h
  refine Ab (Ab (Aa Ac rfl (qm rfl (qm rfl (A1 AV rfl (AX rfl (Ae ?_)))))))
  refine Ap rfl (fun c3 => ?_) (fun c3 => ?_)
  ·have h := Ao c3 h
   refine Aq (Ab (AK (Ab (Aa Ac rfl (qL DL Di rfl (qm rfl (qm rfl ?_)))))))
   obtain ⟨v4, a4, b4, h⟩ := Aj h
   refine qi AV Az a4 (Ag b4) rfl (qK A7 Az rfl ?_)
   obtain ⟨v5, a5, h⟩ := bind_some h
   refine AJ [] (L0 N p0 v4 v5 a5) bU rfl (AB (by kernel_rfl) ?_)
   refine Ap rfl (fun c6 => ?_) (fun c6 => ?_)
   ·have h := Ao c6 h
    refine Ab (Aa Ac rfl (qa rfl (Ae ?_)))
    obtain rfl := sj h
    refine Am (sm [] [(4, bD true)] [] rfl rfl) (AA ?_)
    exact ⟨⟨[_], ⟨.tmp _ _ rfl, tv⟩, rfl⟩, tv⟩
   ·have h := An c6 h
    refine Aq (Aa Ac rfl (qm rfl (AR rfl (qa rfl (Ae ?_)))))
    exact Au _ h (sm [] _ _ rfl rfl)
  ·have h := An c3 h
   refine AS ?_
   exact Au _ h (sm [] _ _ rfl rfl)
 ·refine Am hs (Ab (Aa Ac rfl (qa rfl (Ae ?_))))
  obtain rfl := sj h
  refine Am (sm [] [(4, bD false)] [] rfl rfl) (AA ?_)
  exact ⟨⟨[_], ⟨.tmp _ _ rfl, tv⟩, rfl⟩, tv⟩
theorem Jy (N : Nat) (p0 : B5) (r : Bool) (h : CV N p0 = some r) : AD Tryz.prog 3 [.e (.agg [sC (p0.fb.map Bn), sC (p0.ff.map Bn), sC (p0.fh.map Bn), sC (p0.fv.map Ck)])] [] (bD r) := by
 unfold CV at h
 refine Av (n := 48) (rs := [.tmp 2]) Tryz.func3 rfl rfl rfl (A6 rfl) (A6 rfl) rfl fun w0 S0 => ?_
 refine Ab (Aa Ac rfl (qb rfl (qa rfl (Ae (Ab (Aa Ac rfl (qL ag aF rfl ?_)))))))
 obtain ⟨v1, a1, h⟩ := bind_some h
 refine AJ [2001] (LB N p0 v1 a1) bi rfl (qm rfl (qx rfl (qx rfl (qx rfl (qz RX rfl (qs Di rfl (qa rfl (qa rfl (Ae (Ab ?_))))))))))
 refine AO h (fun v2 => mk [(3, oD (.ptr 3 0)), (4, oD (.own 2002)), (19, bD v2)] [(3, .box [sC (v1.1.fb.map Ak), sC (v1.1.ff.map Ak), sC (v1.1.fh.map Ak), sC (v1.1.fc.map Ar)]), (2002, .vec 3 (v1.2.1.map Ai))]) (fun j2 h => ?_) (fun v2 h => ?_)
 ·refine Aa Ac rfl ?_
  obtain ⟨v3, a3, h⟩ := bind_some h
  refine AJ [] (IP N v3 a3) Zf rfl (BW rfl (qm rfl ?_))
  refine AF (t := 16) rfl (fun c4 => ?_) (fun c4 => ?_)
  ·have h := Ao c4 h
   refine qn rfl (qn rfl (qp rfl (Ae ?_)))
   exact Au _ h (sm [(2002, 2001)] _ _ rfl rfl)
  ·have h := An c4 h
   refine qm rfl (BW rfl (qp rfl (Ae ?_)))
   exact Au _ h (sm [(2002, 2001)] _ _ rfl rfl)
 ·refine Ap rfl (fun c5 => ?_) (fun c5 => ?_)
  ·have h := Ao c5 h
   refine Ab (Aa Ac rfl ?_)
   obtain ⟨v6, a6, h⟩ := bind_some h
   refine AJ [] (IP N v6 a6) Zf rfl (qa rfl (Ae ?_))
   obtain rfl := sj h
   refine Am (sm [] [(2, bD v6)] [] rfl rfl) (AA ?_)
   exact ⟨⟨[_], ⟨.tmp _ _ rfl, tv⟩, rfl⟩, tv⟩
  ·have h := An c5 h
   refine Aq (Ab (Aa Ac rfl (qL DL Di rfl ?_)))
   obtain ⟨v7, a7, h⟩ := bind_some h
   refine AJ [2003] (Lf N v1.1 v7 a7) Y7 rfl (qm rfl (qx rfl (qx rfl (qa rfl (qa rfl (Ae (Ab (Ab (Aa Ac rfl (qL DL Di rfl (qm rfl ?_)))))))))))
   obtain ⟨v8, a8, h⟩ := bind_some h
   refine Dj [] [2002] (KG N v1.1 v1.2.1 v8 a8) ca B4 rfl (Ae ?_)
   refine Ap rfl (fun c9 => ?_) (fun c9 => ?_)
   ·have h := Ao c9 h
    refine AO h (fun v10 => mk [(2, bD v10)] []) (fun j10 h => ?_) (fun v10 h => ?_)
    ·refine Aa Ac rfl (qm rfl (BK rfl (qm rfl ?_)))
     refine AF (t := 31) rfl (fun c11 => ?_) (fun c11 => ?_)
     ·have h := Ao c11 h
      refine qm rfl (EN AV rfl (BK rfl (qp rfl (qa rfl (Ae ?_)))))
      exact Au _ h (sm [] _ _ rfl rfl)
     ·have h := An c11 h
      refine qn rfl (qn rfl (qn rfl (qp rfl (qa rfl (Ae ?_)))))
      exact Au _ h (sm [] _ _ rfl rfl)
    ·obtain rfl := sj h
     refine Am (sm [] [(2, bD v10)] [] rfl rfl) (AA ?_)
     exact ⟨⟨[_], ⟨.tmp _ _ rfl, tv⟩, rfl⟩, tv⟩
   ·have h := An c9 h
    refine Aq ?_
    refine AO h (fun v12 => mk [(2, bD v12)] []) (fun j12 h => ?_) (fun v12 h => ?_)
    ·refine Aa Ac rfl (qm rfl (BK rfl (qm rfl ?_)))
     refine AF (t := 38) rfl (fun c13 => ?_) (fun c13 => ?_)
     ·have h := Ao c13 h
      refine qm rfl (qm rfl ?_)
      obtain ⟨v14, a14, h⟩ := bind_some h
      refine Dj [] [2003, 2002] (Jg N v7.1 v1.2.1 v14 a14) ai B4 rfl (qp rfl (qm rfl ?_))
      refine AF (t := 43) rfl (fun c15 => ?_) (fun c15 => ?_)
      ·have h := Ao c15 h
       refine qL DL Di rfl (qm rfl ?_)
       obtain ⟨v16, a16, h⟩ := bind_some h
       refine Dj [] [2003] (H2 N v1.1 v7.1 v16 a16) WQ B4 rfl (qp rfl (qa rfl (Ae ?_)))
       exact Au _ h (sm [] _ _ rfl rfl)
      ·have h := An c15 h
       refine qn rfl (qn rfl (qn rfl (qp rfl (qa rfl (Ae ?_)))))
       exact Au _ h (sm [] _ _ rfl rfl)
     ·have h := An c13 h
      refine qn rfl (qn rfl (qn rfl (qp rfl (qm rfl (qn rfl (qn rfl (qn rfl (qp rfl (qa rfl (Ae ?_))))))))))
      exact Au _ h (sm [] _ _ rfl rfl)
    ·obtain rfl := sj h
     refine Am (sm [] [(2, bD v12)] [] rfl rfl) (AA ?_)
     exact ⟨⟨[_], ⟨.tmp _ _ rfl, tv⟩, rfl⟩, tv⟩
end Go.Lift
