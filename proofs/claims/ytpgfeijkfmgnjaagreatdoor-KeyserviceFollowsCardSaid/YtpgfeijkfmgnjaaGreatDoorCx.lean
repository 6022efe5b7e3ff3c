/-
  Credentials: issued by the reference's text.
-/
import Derived.Test.YtpgfeijkfmgnjaaGreatDoorAwIt
import Derived.Lib.ItoaLen
set_option maxHeartbeats 0
set_option maxRecDepth 100000
namespace Go.Vm.Seat
variable {n:Int} {x:Cred} {key:Tm}
open Go.Proofs
theorem ZtL (h0:0≤n) (h1:n≤9999):∀ H,CallOk E0 Tryz.prog 106 [.int .i64 n] H (.str (Lib.itoa n)) H:=by
 have hc:=Zsr h0 h1
 refine Jw tOk fe106.ok rfl ?_
 repeat' first|refine Jc (hc _) ?_|refine Jo ?_|fail
 all_goals rfl
theorem c67 (h0:0≤n) (h1:n≤9999):∀ H,CallOk E0 Tryz.prog 67 [.int .i64 n] H (.str (Lib.itoa n)) H:=by
 have hc:=ZtL h0 h1
 refine Jw tOk fe67.ok rfl ?_
 repeat' first|refine Jc (hc _) ?_|refine Jo ?_|fail
 all_goals rfl
theorem ZrI (h0:0≤n) (h1:n≤9999):∀ H,CallOk E0 Tryz.prog 151 [.int .i64 n] H (.agg (Ub n).cells) H:=by
 have hc:=c67 h0 h1
 have hl:=U8 h0 h1
 have hat:=Znu (110::Lib.itoa n) 4
 unfold Ub
 generalize Lib.itoa n=s at hc hat hl ⊢
 have had:ZP E0 .add 9 (.str [110]) (.str s)=some (.str (110::s)):=by
  show Zfq .add [110] s=_
  simp only [Zfq]
  rw [if_pos (by simp;omega)]
  rfl
 rw [ZE] at hat ⊢
 refine Jw tOk fe151.ok rfl ?_
 repeat' first|refine Jc (hc _) ?_|refine Jc (hat _) ?_|refine Ji ?_|refine Jo ?_|fail
 all_goals rfl
theorem Zti (h:CredOk x) (h1:x.sub.length≤100000) (hp:∀ s,s∈x.per→s.length≤100000) (he:∀ s,s∈x.exc→s.length≤100000):∀ H,CallOk E0 Tryz.prog 103 [.agg x.cells] H (.agg x.body.cells) H:=by
 have ct:∀ H,CallOk E0 Tryz.prog 148 [.sl .full 4 (Za x.bodyL)] H (.agg x.body.cells) H:=fun H=>Yc (Zsg (l:=x.bodyL) (by simp [Cred.bodyL]) (by simp [Cred.bodyL]) true hNil) (by
  simp only [Cred.bodyL,Za]
  rw [Zw]
  rfl) (Zz _ _ _) H
 obtain ⟨sub,key,iss,pn,per,en,exc,ser,fr,till⟩:=x
 obtain ⟨d1,d2,d3,l1,l2,⟨n1,n2⟩,⟨n3,n4⟩,n5,n6⟩:=h
 simp only at h1 hp he d1 d2 d3 l1 l2 n1 n2 n3 n4 n5 n6
 have c1:=Zsh h1 d1
 have c2:=Zsk hp d2 (by omega) pn
 have c3:=Zsk he d3 (by omega) en
 have c4:=ZrI n1 n2
 have c5:=ZrI n3 n4
 have c6:=ZrI n5 n6
 have ca:=Znu [99,101,114,116] 5
 have cf:=Znu (Zdm iss) 4
 generalize hB:Cred.body ⟨sub,key,iss,pn,per,en,exc,ser,fr,till⟩=B at ct ⊢
 clear hB
 simp only [Cred.bodyL,Za,Ub] at ct
 simp only [Ub] at c4 c5 c6
 simp only [ZE] at ct c4 c5 c6 ca cf
 generalize YS sub=t1 at ct c1
 generalize XS per=t2 at ct c2
 generalize XS exc=t3 at ct c3
 generalize Lib.itoa ser=s1 at ct c4
 generalize Lib.itoa fr=s2 at ct c5
 generalize Lib.itoa till=s3 at ct c6
 obtain ⟨k1,m1,s1',b1,q1⟩:=t1
 obtain ⟨k2,m2,s2',b2,q2⟩:=t2
 obtain ⟨k3,m3,s3',b3,q3⟩:=t3
 obtain ⟨k4,m4,s4',b4,q4⟩:=key
 obtain ⟨k5,m5,s5',b5,q5⟩:=B
 simp only [Tm.cells] at ct c1 c2 c3
 simp only [Cred.cells,Tm.cells,List.cons_append,List.nil_append]
 have hco:[slV pn 1 (Y2 per),slV en 1 (Y2 exc)].all Z7=true:=by simp only [List.all_cons,List.all_nil,Ya,Bool.and_self]
 cases iss
 all_goals
  simp only [Zdm,Bool.false_eq_true,if_false,if_true] at ct cf
  refine Jw tOk fe103.ok (Z6 _ _ _ _ _ _ _) ?_
  repeat' first|refine Jt ?_|refine Jo ?_|(apply dCl;rfl;rfl;rfl;rfl;rfl;first|exact ca _|exact c1 _|exact cf _|exact c2 _|exact c3 _|exact c4 _|exact c5 _|exact c6 _|exact ct _)|refine JB ?_|refine Jh ?_|(apply Wp.drawS tOk follows;kernel_rfl;rfl)|fail
  all_goals exact Z6 _ _ _ _ _ _ _
theorem Zk:Tm.zero.cells= [.int .i64 0,.str [],.int .i64 0,.nils]:=by
 show [PV.int .i64 0,.str [],.int .i64 0,slV true 4 (Za [])]=_
 rw [show slV true 4 (Za [])= .nils from Zq 4]
theorem Yr (m:Nat) (H:Heap) (t:Tm) (e:Int):frz3 m H (.tup [.agg t.cells,.int .i64 e])=some (.tup [.agg t.cells,.int .i64 e]):=by
 have h:frz2 m H (.agg t.cells)=some (.agg t.cells):=Zz m H t
 show (match YR m H [.agg t.cells,.int .i64 e] with|some vs'=>some (PV.tup vs')|none=>none)=_
 simp only [YR,h]
 rfl
theorem ZkA (m:Nat) (H:Heap) (k:Int) (nm:Bs) (s:Int) (a b:Tm) (e:Int):frz3 m H (.tup [.agg [.int .i64 k,.str nm,.int .i64 s,.sl .full 4 [a.cells,b.cells]],.int .i64 e])=some (.tup [.agg (Tm.mk k nm s true [a,b]).cells,.int .i64 e]):=by
 have h:frz2 m H (.agg [.int .i64 k,.str nm,.int .i64 s,.sl .full 4 [a.cells,b.cells]])=some (.agg (Tm.mk k nm s true [a,b]).cells):=by
  have h0:=Ws m H [.int .i64 k,.str nm,.int .i64 s,.sl .full 4 [a.cells,b.cells]]
  have h1:frz3 m H (.agg [.int .i64 k,.str nm,.int .i64 s,.sl .full 4 [a.cells,b.cells]])=frz2 m H (.agg [.int .i64 k,.str nm,.int .i64 s,.sl .full 4 [a.cells,b.cells]]):=rfl
  rw [← h1,h0]
  simp only [Tm.cells,Za]
  rw [Zw]
  rfl
 show (match YR m H [.agg [.int .i64 k,.str nm,.int .i64 s,.sl .full 4 [a.cells,b.cells]],.int .i64 e] with|some vs'=>some (PV.tup vs')|none=>none)=_
 simp only [YR,h]
 rfl
theorem c59 (x : Cred) (h1 : x.sub.length ≤ 100000) (hp : ∀ s, s ∈ x.per → s.length ≤ 100000) (he : ∀ s, s ∈ x.exc → s.length ≤ 100000) (hpl : x.per.length ≤ 100000) (hel : x.exc.length ≤ 100000)
  (hk:x.key.Ok) (hks:x.key.size≤40000) (hk2:key.Ok) (hks2:key.size≤40000):∀ H,CallOk E0 Tryz.prog 59 [.agg x.cells,.agg key.cells] H (.tup [.agg (x.issue key).1.cells,.int .i64 (x.issue key).2]) H:=by
 have c1:=c82 x h1 hk (by omega) hp he hpl hel
 have c2:=ZrZ hk2 (by omega)
 have hz:=Zk
 have hfz:=Yr 0 hNil Tm.zero
 unfold Cred.issue
 by_cases v1:x.valid=0
 · rw [if_neg (not_not_intro v1)]
   rw [v1] at c1
   by_cases v2:key.key=0
   · rw [if_neg (not_not_intro v2)]
     rw [v2] at c2
     have hok:=Zcf v1
     have c3:=Zti hok h1 hp he
     have c4:∀ H,CallOk E0 Tryz.prog 41 [.agg [.int .i64 3,.str [115,105,103,110],.int .i64 0,.sl .full 4 [x.body.cells,key.cells]]] H (.int .i64 (x.term key).valid) H:=fun H=>
      Yc (c41 (ZeV hok hk hk2) (by have:=Zaw (key:=key) hok;omega) hNil) (by
       simp only [Cred.term,Tm.cells,Za]
       rw [Zw]
       obtain ⟨k5,m5,s5,b5,q5⟩:=x.body
       obtain ⟨k6,m6,s6,b6,q6⟩:=key
       rfl) rfl H
     have hfn:=fun m H=>ZkA m H 3 [115,105,103,110] 0 x.body key 0
     have hfr:frz3 0 hNil (.tup [.agg (if (x.term key).valid≠0 then (Tm.zero,(x.term key).valid) else (x.term key,0)).1.cells,.int .i64 (if (x.term key).valid≠0 then (Tm.zero,(x.term key).valid) else (x.term key,0)).2])=some (.tup [.agg (if (x.term key).valid≠0 then (Tm.zero,(x.term key).valid) else (x.term key,0)).1.cells,.int .i64 (if (x.term key).valid≠0 then (Tm.zero,(x.term key).valid) else (x.term key,0)).2]):=Yr _ _ _ _
     have hT:(Tm.mk 3 [115,105,103,110] 0 true [x.body,key])=x.term key:=rfl
     rw [hT] at hfn
     clear hT
     generalize x.term key=T at c4 hfn hfr ⊢
     generalize T.valid=e at c4 hfr ⊢
     generalize x.body=B at c3 c4 hfn
     clear hp he hpl hel hks hks2 hk hk2 h1 v1 v2 hok hz
     obtain ⟨k5,m5,s5,b5,q5⟩:=B
     obtain ⟨k6,m6,s6,b6,q6⟩:=key
     obtain ⟨sub,⟨k4,m4,s4,b4,q4⟩,iss,pn,per,en,exc,ser,fr,till⟩:=x
     simp only [Tm.cells] at c2 c3 c4 hfn
     simp only [Cred.cells,Tm.cells,List.cons_append,List.nil_append] at c1 c3 ⊢
     have hco:[slV b4 4 (Za q4),slV pn 1 (Y2 per),slV en 1 (Y2 exc)].all Z7=true:=by simp only [List.all_cons,List.all_nil,Ya,Bool.and_self]
     refine Zm (own:=fun d=>Nat.beq d 30006) tOk fe59.ok (by simp only [ZJ,frzG,XY,ZD];rfl) hfr ?_
     refine Wp.seq ?_
     repeat' first|(apply qCl;rfl;rfl;rfl;rfl;first|exact c1 _|exact c2 _|exact c4 _)|refine Jt ?_|refine Jb ?_ ?_|refine Jo ?_|refine Jd (c3 _) ?_|(apply dAl;rfl;rfl;rfl;rfl;exact IsV.ptrM;exact IsH.mkN)|refine JB ?_|refine Jh ?_|(apply dWB tOk follows;rfl;kernel_rfl;rfl;exact IsH.mkN)|intro hb
     · rw [if_pos (by simpa using hb), Zk]
       rfl
     · rw [if_neg (by simpa using hb)]
       exact hfn _ _
   · rw [if_pos v2]
     generalize key.key=e at c2 v2 ⊢
     clear hp he hpl hel hks hks2 hk hk2 h1 v1 hz
     have hfr:=hfz e
     obtain ⟨k6,m6,s6,b6,q6⟩:=key
     obtain ⟨sub,⟨k4,m4,s4,b4,q4⟩,iss,pn,per,en,exc,ser,fr,till⟩:=x
     simp only [Tm.cells] at c2
     simp only [Cred.cells,Tm.cells,List.cons_append,List.nil_append] at c1 ⊢
     refine Jw tOk fe59.ok hfr ?_
     repeat' first|refine Jc (c1 _) ?_|refine Jc (c2 _) ?_|refine Jt ?_|refine Jb ?_ ?_|refine Jo ?_|refine Jh ?_|(apply dWB tOk follows;rfl;kernel_rfl;rfl;exact IsH.mkN)|intro hb
     all_goals first
      | (exfalso;simp at hb;exact v2 hb)
      | (rw [Zk];rfl)
 · rw [if_pos v1]
   generalize x.valid=e at c1 v1 ⊢
   clear hp he hpl hel hks hks2 hk hk2 h1 c2 hz
   have hfr:=hfz e
   obtain ⟨k6,m6,s6,b6,q6⟩:=key
   obtain ⟨sub,⟨k4,m4,s4,b4,q4⟩,iss,pn,per,en,exc,ser,fr,till⟩:=x
   simp only [Cred.cells,Tm.cells,List.cons_append,List.nil_append] at c1 ⊢
   refine Jw tOk fe59.ok hfr ?_
   repeat' first|refine Jc (c1 _) ?_|refine Jb ?_ ?_|refine Jo ?_|intro hb
   all_goals first
    | (exfalso;simp at hb;exact v1 hb)
    | (rw [Zk];rfl)
theorem Zq2 {d:Nat} (hd:d<10):Zdg E0 164 9 (.sl .full 1 [[.int .u8 (IntKind.u8.wrap (IntKind.i64.wrap (48+(d:Int))))]])=some (.str [UInt8.ofNat (48+d)]):=by
 have e1:IntKind.u8.wrap (IntKind.i64.wrap (48+(d:Int)))=((48+d:Nat):Int):=by
  rcases (show d=0∨d=1∨d=2∨d=3∨d=4∨d=5∨d=6∨d=7∨d=8∨d=9 by omega) with rfl|rfl|rfl|rfl|rfl|rfl|rfl|rfl|rfl|rfl<;>rfl
 rw [e1]
 rcases (show d=0∨d=1∨d=2∨d=3∨d=4∨d=5∨d=6∨d=7∨d=8∨d=9 by omega) with rfl|rfl|rfl|rfl|rfl|rfl|rfl|rfl|rfl|rfl<;>rfl
theorem ZbH:∀ (f u:Nat),u<10 ^ f→u≤100000→∀ H,CallOk E0 Tryz.prog 253 [.int .i64 (u:Int)] H (.str (Lib.decDigits u)) H:=by
 intro f
 induction f with
 | zero =>
   intro u h _
   have:u=0:=by simpa using h
   subst this
   have hc:=Zq2 (d:=0) (by omega)
   rw [ZnA (by omega)]
   refine Jw tOk fe253.ok rfl ?_
   repeat' first|refine Js ?_|(apply qCv;rfl;rfl;rfl;assumption;exact IsV.any _)|refine Jt ?_|refine Jo ?_|fail
   all_goals rfl
 | succ f ih =>
   intro u h hu
   by_cases hlt:u<10
   · have hc := Zq2 (d := u) hlt
     rw [ZnA hlt]
     refine Jw tOk fe253.ok rfl ?_
     repeat' first|refine Js ?_|(apply qCv;rfl;rfl;rfl;assumption;exact IsV.any _)|refine Jb ?_ ?_|refine Jo ?_|refine Jh ?_|(apply Wp.draw tOk follows;kernel_rfl)|intro hb
     · rfl
     · exfalso;simp at hb;omega
   · have hq : IntKind.i64.wrap ((u : Int).tdiv 10) = ((u / 10 : Nat) : Int) := by
       have:(u:Int).tdiv 10=((u / 10:Nat):Int):=by rw [Int.tdiv_eq_ediv_of_nonneg (by omega)];omega
       rw [this];exact Zg (by omega)
     have hm:(u:Int).tmod 10=((u % 10:Nat):Int):=by rw [Int.tmod_eq_emod_of_nonneg (by omega)];omega
     have hr:=ih (u / 10) (by rw [Nat.pow_succ] at h;omega) (by omega)
     rw [← hq] at hr
     have hc:=Zq2 (d:=u % 10) (by omega)
     rw [← hm] at hc
     have hlen:(Lib.decDigits (u / 10)).length≤1000:=by
      rw [Lib.decDigits_length]
      have:=Lib.nDigits_le20 (u / 10) (by omega)
      omega
     rw [Zmt hlt]
     generalize Lib.decDigits (u / 10)=s at hr hlen ⊢
     have had:ZP E0 .add 9 (.str s) (.str [UInt8.ofNat (48+u % 10)])=some (.str (s++ [UInt8.ofNat (48+u % 10)])):=by
      show Zfq .add s _=_
      simp only [Zfq]
      rw [if_pos (by simp;omega)]
     refine Jw tOk fe253.ok rfl ?_
     repeat' first|refine Js ?_|refine Jb ?_ ?_|refine Jo ?_|refine Jd (hr _) ?_|refine JB ?_|refine JD ?_|(apply dCv;rfl;rfl;rfl;assumption;exact IsV.any _;rfl)|refine Jh ?_|(apply Wp.draw tOk follows;kernel_rfl)|intro hb
     · exfalso;simp at hb;omega
     · rfl
theorem Zrr (h0:0≤n) (h1:n≤9999):∀ H,CallOk E0 Tryz.prog 229 [.int .i64 n] H (.agg (Ub n).cells) H:=by
 have hl:=U8 h0 h1
 have hat:=Zpv (110::Lib.itoa n)
 have hc:∀ H,CallOk E0 Tryz.prog 253 [.int .i64 n] H (.str (Lib.itoa n)) H:=by
  obtain ⟨u,rfl⟩:∃ u:Nat,n=(u:Int):=⟨n.toNat,by omega⟩
  have e:Lib.itoa (u:Int)=Lib.decDigits u:=by
   unfold Lib.itoa
   rw [if_neg (by omega)]
   rfl
  rw [e]
  exact ZbH 5 u (by omega) (by omega)
 unfold Ub
 generalize Lib.itoa n=s at hc hat hl ⊢
 have had:ZP E0 .add 9 (.str [110]) (.str s)=some (.str (110::s)):=by
  show Zfq .add [110] s=_
  simp only [Zfq]
  rw [if_pos (by simp;omega)]
  rfl
 rw [ZE] at hat ⊢
 refine Jw tOk fe229.ok rfl ?_
 repeat' first|refine Jc (hc _) ?_|refine Jc (hat _) ?_|refine Ji ?_|refine Jo ?_|fail
 all_goals rfl
theorem ZoN {es:Nat} {L:List (List PV)} {out:PV} {lv:List Nat} {nt:Nat} (h:ApV false es L out lv nt):∃ tl,out= .sl tl es L:=by
 cases h with
 |nil _ _ h=>cases h
 |full=>exact ⟨_,rfl⟩
 |tok=>exact ⟨_,rfl⟩
theorem c38 (nm:Bs) {l:List Tm} (hlen:l.length≤10000) (b:Bool):∀ H,CallOk E0 Tryz.prog 38 [.str nm,slV b 4 (Za l)] H (.agg (Tm.mk 3 nm 0 false l).cells) H:=by
 have hA0:ApV false 4 [] (.sl .full 4 []) [] 0:= .full [] _ _ rfl rfl
 obtain ⟨out',lv',nt',hap,hA', -⟩:=hA0.app YA (.slV b 4 (Za l)) (Zs _) (ZZ (by simp only [Zb,List.length_nil];omega) (by decide)) (ZC _)
 rw [List.nil_append] at hA'
 have hco:=ZaD hA' 3 nm 0
 have hfr:=fun m H=>ZiP hA' m H 3 nm 0
 simp only [Tm.cells]
 obtain ⟨tl,rfl⟩:=ZoN hA'
 refine Jw tOk fe38.ok (Z6 _ _ _ _ _ _ _) ?_
 repeat' first|refine Js ?_|refine JA ?_|refine Jo ?_|fail
 exact hfr _ _
theorem Zoh (b:Bool) (a:Tm) (r:List Tm):ZW E0 24 (slV b 4 (Za (a::r))) (some (.int .i64 1)) none none=some (.sl .none 4 (Za r)):=by
 have e:E0.T 24=some ⟨.slice 26,1,24,.nils⟩:=by kernel_rfl
 have et:E0.T 26=some ⟨.struct [(0,3),(1,9),(2,3),(3,24)],4,56,.agg [.int .i64 0,.str [],.int .i64 0,.nils]⟩:=by kernel_rfl
 have en:nat? (.int .i64 1)=some 1:=rfl
 rw [show Za (a::r)=a.cells::Za r from rfl,Zw]
 simp only [ZW,e,et,if_true,U3,Xa,en]
 rw [if_pos (by simp)]
 simp [ZaZ]
theorem Zai:∀ {l:List Tm} (_:l≠ []) (_:l.length≤10000) (b:Bool),∀ H,CallOk E0 Tryz.prog 225 [slV b 4 (Za l)] H (.agg (XN l).cells) H:=by
 intro l
 induction l with
 |nil=>intro h;exact absurd rfl h
 | cons a r ih =>
   intro _ hlen b
   cases r with
   | nil =>
     simp only [XN]
     obtain ⟨k,nm,s,tb,kz⟩:=a
     have hj:=Zn (l:=[Tm.mk k nm s tb kz]) (i:=0) rfl
     simp only [Tm.cells]
     refine Jw tOk fe225.ok (Z6 _ _ _ _ _ _ _) ?_
     repeat' first|refine Jl ?_|refine Jx ?_|refine Jt ?_|refine Jo ?_|fail
     all_goals first
      | exact Z6 _ _ _ _ _ _ _
      | (exfalso;simp [Zb] at hb;done)
   | cons c r =>
     have hc:∀ H,CallOk E0 Tryz.prog 225 [.sl .none 4 (Za (c::r))] H (.agg (XN (c::r)).cells) H:=by
      have:=ih (by simp) (by simp at hlen ⊢;omega) true
      rw [show slV true 4 (Za (c::r))= .sl .none 4 (Za (c::r)) from Zw _ _ _ _] at this
      exact this
     have ht:=Zoh b a (c::r)
     have hj:(Za (a::c::r))[0]? = some a.cells:=rfl
     have ha:∀ H,CallOk E0 Tryz.prog 38 [.str [112,97,105,114],.sl .full 4 [a.cells,(XN (c::r)).cells]] H (.agg (XN (a::c::r)).cells) H:=fun H=>
      Yc (c38 [112,97,105,114] (l:=[a,XN (c::r)]) (by simp) true hNil) (by
       simp only [Za]
       rw [Zw]
       obtain ⟨k5,m5,s5,b5,q5⟩:=a
       obtain ⟨k6,m6,s6,b6,q6⟩:=XN (c::r)
       rfl) (by
       have e:(Tm.mk 3 [112,97,105,114] 0 false [a,XN (c::r)]).cells=(XN (a::c::r)).cells:=by
        show [PV.int .i64 3,.str [112,97,105,114],.int .i64 0,slV false 4 (Za [a,XN (c::r)])]= [PV.int .i64 3,.str [112,97,105,114],.int .i64 0,slV true 4 (Za [a,XN (c::r)])]
        simp only [Za]
        rw [Zw,Zw]
       rw [e]
       exact Zz _ _ _) H
     have hcl:(Za (a::c::r)).length=r.length+2:=by simp [Zb]
     generalize Za (a::c::r)=L at ht hj hcl ⊢
     generalize XN (a::c::r)=T at ha ⊢
     generalize XN (c::r)=U at hc ha
     obtain ⟨k,nm,s,tb,kz⟩:=a
     obtain ⟨k5,m5,s5,b5,q5⟩:=T
     obtain ⟨k6,m6,s6,b6,q6⟩:=U
     simp only [Tm.cells] at hc ha hj ⊢
     refine Jw tOk fe225.ok (Z6 _ _ _ _ _ _ _) ?_
     repeat' first|refine Jl ?_|refine Jx ?_|refine Jb ?_ ?_|refine Jo ?_|refine Jd (hc _) ?_|refine Jd (ha _) ?_|refine JB ?_|(apply dSl;rfl;rfl;rfl;rfl;rfl;rfl;assumption;exact IsV.any _;rfl)|refine JI ?_|refine Jh ?_|(apply Wp.drawS tOk follows;kernel_rfl;rfl)|intro hb
     all_goals first
      | exact Z6 _ _ _ _ _ _ _
      | (exfalso;rw [hcl] at hb;simp at hb;done)
      | (exfalso;rw [hcl] at hb;simp at hb;omega)
theorem Zr1 {s:Bs} (hs:s.length≤100000) (hd:ZB s=true):∀ H,CallOk E0 Tryz.prog 226 [.str s] H (.agg (YS s).cells) H:=by
 have hc:=ZsG hs
 have h4:=(UX hd).1
 have hall:(ZG s).all Yx=true:=by
  unfold ZB at hd
  simp only [Bool.and_eq_true] at hd
  exact hd.2
 unfold XQ at hc
 rw [hall] at hc
 unfold YS
 generalize ZG s=l at hc h4 ⊢
 have hc:∀ H,CallOk E0 Tryz.prog 172 [.str s] H (.tup [.sl .none 1 (ZM l),.bool (decide (l.length≤4))]) H:=hc
 clear hall hd
 rw [show decide (l.length≤4)=true by simpa using h4] at hc
 have hpl:(ZM l).length=l.length:=by simp [ZM]
 refine Jw tOk fe226.ok (Zz _ _ _) ?_
 repeat' first|refine Jc (hc _) ?_|refine Jt ?_|refine Jo ?_|fail
 refine Wp.while (fun m tm H => ∃ (i : Nat) (base : TM) (out : PV) (lv : List Nat) (nt : Nat), i + m = l.length ∧ ApV true 4 (Za ((l.take i).map fun x => Yn x 4)) out lv nt ∧
   tm=ovr base [(2,.ptr 0 4 0 0),(5,out),(3,.sl .none 1 (ZM l)),(6,.int .i64 (i:Int))]∧H=⟨[.cells 4 [[.int .i64 0,.str [],.int .i64 0,.nils]]],0,lv,nt⟩)
  (fun m tm H hI=>?_) l.length _ _ ⟨0,_,_,_,_,by omega,.nil _ _ rfl,Zi ⟨rfl,rfl,rfl,rfl,trivial⟩,rfl⟩
 obtain ⟨i,base,out,lv,nt,hi,hA,rfl,rfl⟩:=hI
 by_cases hlt:i<l.length
 · obtain ⟨x, hx⟩ : ∃ x, l[i]? = some x := ⟨l[i], by simp⟩
   have hia:=Zrv hx
   have hat:=Zpv x
   have hlen1:((l.take i).map fun x=>Yn x 4).length≤4:=by rw [List.length_map,List.length_take];omega
   obtain ⟨out',lv',nt',hap,hA', -⟩:=hA.app YA (.sl .full 4 (Za [Yn x 4])) (Zs _) (ZZ (by simp only [Zb,List.length_cons,List.length_nil];omega) (by decide)) (ZC _)
   rw [← Zo] at hA'
   have hs:((l.take i).map fun x=>Yn x 4)++ [Yn x 4]=(l.take (i+1)).map fun x=>Yn x 4:=by simp [List.take_add_one,hx]
   rw [hs] at hA'
   rw [ZQ,ZE] at hap
   rw [ZE] at hat
   repeat' first|refine Jc (hat _) ?_|refine Js ?_|refine JA ?_|refine JJ ?_|refine Jb ?_ ?_|refine Jo ?_|intro hb
   · exact LoopI.go (m-1) (by omega) ⟨i+1,_,out',lv',nt',by omega,hA',Zi ⟨rfl,rfl,rfl,Zj (Zg (n:=i+1) (by omega)),trivial⟩,rfl⟩
   · exfalso;rw [hpl] at hb;simp at hb;omega
 · have e : i = l.length := by omega
   subst e
   rw [List.take_length] at hA
   have he:=Zq7
   obtain ⟨out',lv',nt',hap,hA', -⟩:=hA.app YA (.sl .full 4 (Za [endT])) (Zs _) (ZZ (by simp only [Zb,List.length_cons,List.length_nil,List.length_map];omega) (by decide)) (ZC _)
   rw [← Zo] at hA'
   rw [ZQ,show endT=Yn [101,110,100] 5 from rfl,ZE] at hap
   rw [ZE] at he
   have ht:∀ H,CallOk E0 Tryz.prog 225 [out'] H (.agg (XN ((l.map fun x=>Yn x 4)++ [endT])).cells) H:=fun H=>Yc (Zai (l:=(l.map fun x=>Yn x 4)++ [endT]) (by simp) (by simp;omega) true hNil) (by simp only [ZJ,hA'.frzG]) (Zz _ _ _) H
   generalize XN ((l.map fun x=>Yn x 4)++ [endT])=t at ht ⊢
   obtain ⟨k',nm',s',b',kz'⟩:=t
   simp only [Tm.cells] at ht ⊢
   repeat' first|refine Jc (he _) ?_|refine Jc (ht _) ?_|refine Js ?_|refine JA ?_|refine Jb ?_ ?_|refine Jo ?_|intro hb
   · exfalso;rw [hpl] at hb;simp at hb
   · exact Z6 _ _ _ _ _ _ _
theorem ZrU {l:List Bs} (hs:∀ s,s∈l→s.length≤100000) (hd:∀ s,s∈l→ZB s=true) (hlen:l.length≤1000) (b:Bool):∀ H,CallOk E0 Tryz.prog 228 [slV b 1 (Y2 l)] H (.agg (XS l).cells) H:=by
 unfold XS
 refine Jw tOk fe228.ok (Zz _ _ _) ?_
 repeat' first|refine Jo ?_|fail
 refine Wp.while (fun m tm H => ∃ (i : Nat) (base : TM) (out : PV) (lv : List Nat) (nt : Nat), i + m = l.length ∧ ApV true 4 (Za ((l.take i).map YS)) out lv nt ∧
   tm=ovr base [(0,slV b 1 (Y2 l)),(2,.ptr 0 4 0 0),(3,out),(4,.int .i64 (i:Int))]∧H=⟨[.cells 4 [[.int .i64 0,.str [],.int .i64 0,.nils]]],0,lv,nt⟩)
  (fun m tm H hI=>?_) l.length _ _ ⟨0,_,_,_,_,by omega,.nil _ _ rfl,Zi ⟨rfl,rfl,rfl,rfl,trivial⟩,rfl⟩
 obtain ⟨i,base,out,lv,nt,hi,hA,rfl,rfl⟩:=hI
 by_cases hlt:i<l.length
 · obtain ⟨x, hx⟩ : ∃ x, l[i]? = some x := ⟨l[i], by simp⟩
   have hj:=Q4 hx
   have hat:=Zr1 (hs x (List.mem_of_getElem? hx)) (hd x (List.mem_of_getElem? hx))
   have hlen1:((l.take i).map YS).length≤1000:=by rw [List.length_map,List.length_take];omega
   obtain ⟨out',lv',nt',hap,hA', -⟩:=hA.app YA (.sl .full 4 (Za [YS x])) (Zs _) (ZZ (by simp only [Zb,List.length_cons,List.length_nil];omega) (by decide)) (ZC _)
   rw [← Zo] at hA'
   have hs:(l.take i).map YS++ [YS x]=(l.take (i+1)).map YS:=by simp [List.take_add_one,hx]
   rw [hs] at hA'
   rw [ZQ] at hap
   generalize YS x=t at hap hat
   obtain ⟨k',nm',s',b',kz'⟩:=t
   simp only [Tm.cells] at hat hap
   repeat' first|refine Jc (hat _) ?_|refine Js ?_|refine JA ?_|refine Jl ?_|refine Jx ?_|refine Jb ?_ ?_|refine Jo ?_|intro hb
   · exact LoopI.go (m-1) (by omega) ⟨i+1,_,out',lv',nt',by omega,hA',Zi ⟨rfl,rfl,rfl,Zj (Zg (n:=i+1) (by omega)),trivial⟩,rfl⟩
   · exfalso;rw [XP] at hb;simp at hb;omega
 · have e : i = l.length := by omega
   subst e
   rw [List.take_length] at hA
   have he:=Zq7
   obtain ⟨out',lv',nt',hap,hA', -⟩:=hA.app YA (.sl .full 4 (Za [endT])) (Zs _) (ZZ (by simp only [Zb,List.length_cons,List.length_nil,List.length_map];omega) (by decide)) (ZC _)
   rw [← Zo] at hA'
   rw [ZQ,show endT=Yn [101,110,100] 5 from rfl,ZE] at hap
   rw [ZE] at he
   have ht:∀ H,CallOk E0 Tryz.prog 225 [out'] H (.agg (XN (l.map YS++ [endT])).cells) H:=fun H=>Yc (Zai (l:=l.map YS++ [endT]) (by simp) (by simp;omega) true hNil) (by simp only [ZJ,hA'.frzG]) (Zz _ _ _) H
   generalize XN (l.map YS++ [endT])=t at ht ⊢
   obtain ⟨k',nm',s',b',kz'⟩:=t
   simp only [Tm.cells] at ht ⊢
   repeat' first|refine Jc (he _) ?_|refine Jc (ht _) ?_|refine Js ?_|refine JA ?_|refine Jl ?_|refine Jb ?_ ?_|refine Jo ?_|intro hb
   · exfalso;rw [XP] at hb;simp at hb
   · exact Z6 _ _ _ _ _ _ _
theorem Zuo (h:CredOk x) (h1:x.sub.length≤100000) (hp:∀ s,s∈x.per→s.length≤100000) (he:∀ s,s∈x.exc→s.length≤100000):∀ H,CallOk E0 Tryz.prog 181 [.agg x.cells] H (.agg x.body.cells) H:=by
 have ct:∀ H,CallOk E0 Tryz.prog 225 [.sl .full 4 (Za x.bodyL)] H (.agg x.body.cells) H:=fun H=>Yc (Zai (l:=x.bodyL) (by simp [Cred.bodyL]) (by simp [Cred.bodyL]) true hNil) (by
  simp only [Cred.bodyL,Za]
  rw [Zw]
  rfl) (Zz _ _ _) H
 obtain ⟨sub,key,iss,pn,per,en,exc,ser,fr,till⟩:=x
 obtain ⟨d1,d2,d3,l1,l2,⟨n1,n2⟩,⟨n3,n4⟩,n5,n6⟩:=h
 simp only at h1 hp he d1 d2 d3 l1 l2 n1 n2 n3 n4 n5 n6
 have c1:=Zr1 h1 d1
 have c2:=ZrU hp d2 (by omega) pn
 have c3:=ZrU he d3 (by omega) en
 have c4:=Zrr n1 n2
 have c5:=Zrr n3 n4
 have c6:=Zrr n5 n6
 have ca:=c39 [99,101,114,116] 5
 have cf:=Zpv (Zdm iss)
 generalize hB:Cred.body ⟨sub,key,iss,pn,per,en,exc,ser,fr,till⟩=B at ct ⊢
 clear hB
 simp only [Cred.bodyL,Za,Ub] at ct
 simp only [Ub] at c4 c5 c6
 simp only [ZE] at ct c4 c5 c6 ca cf
 generalize YS sub=t1 at ct c1
 generalize XS per=t2 at ct c2
 generalize XS exc=t3 at ct c3
 generalize Lib.itoa ser=s1 at ct c4
 generalize Lib.itoa fr=s2 at ct c5
 generalize Lib.itoa till=s3 at ct c6
 obtain ⟨k1,m1,s1',b1,q1⟩:=t1
 obtain ⟨k2,m2,s2',b2,q2⟩:=t2
 obtain ⟨k3,m3,s3',b3,q3⟩:=t3
 obtain ⟨k4,m4,s4',b4,q4⟩:=key
 obtain ⟨k5,m5,s5',b5,q5⟩:=B
 simp only [Tm.cells] at ct c1 c2 c3
 simp only [Cred.cells,Tm.cells,List.cons_append,List.nil_append]
 cases iss
 all_goals
  simp only [Zdm,Bool.false_eq_true,if_false,if_true] at ct cf
  refine Jw tOk fe181.ok (Z6 _ _ _ _ _ _ _) ?_
  repeat' first|refine Jt ?_|refine Jo ?_|(apply dCl;rfl;rfl;rfl;rfl;rfl;first|exact ca _|exact c1 _|exact cf _|exact c2 _|exact c3 _|exact c4 _|exact c5 _|exact c6 _|exact ct _)|refine JB ?_|refine Jh ?_|(apply Wp.drawS tOk follows;kernel_rfl;rfl)|fail
  all_goals exact Z6 _ _ _ _ _ _ _
theorem ZrC (x : Cred) (h1 : x.sub.length ≤ 100000) (hp : ∀ s, s ∈ x.per → s.length ≤ 100000) (he : ∀ s, s ∈ x.exc → s.length ≤ 100000) (hpl : x.per.length ≤ 100000) (hel : x.exc.length ≤ 100000)
  (hk:x.key.Ok) (hks:x.key.size≤40000) (hk2:key.Ok) (hks2:key.size≤40000):∀ H,CallOk E0 Tryz.prog 138 [.agg x.cells,.agg key.cells] H (.tup [.agg (x.issue key).1.cells,.int .i64 (x.issue key).2]) H:=by
 have c1:=c93 x h1 hk (by omega) hp he hpl hel
 have c2:=ZsA hk2 (by omega)
 have hfz:=Yr 0 hNil Tm.zero
 unfold Cred.issue
 by_cases v1:x.valid=0
 · rw [if_neg (not_not_intro v1)]
   rw [v1] at c1
   by_cases v2:key.key=0
   · rw [if_neg (not_not_intro v2)]
     rw [v2] at c2
     have hok:=Zcf v1
     have c3:=Zuo hok h1 hp he
     have c4:=ZlD (ZeV hok hk hk2) (by have:=Zaw (key:=key) hok;omega)
     have c5:∀ H,CallOk E0 Tryz.prog 38 [.str [115,105,103,110],.sl .full 4 [x.body.cells,key.cells]] H (.agg (x.term key).cells) H:=fun H=>
      Yc (c38 [115,105,103,110] (l:=[x.body,key]) (by simp) true hNil) (by
       simp only [Za]
       rw [Zw]
       obtain ⟨k5,m5,s5,b5,q5⟩:=x.body
       obtain ⟨k6,m6,s6,b6,q6⟩:=key
       rfl) (by
       have e:(Tm.mk 3 [115,105,103,110] 0 false [x.body,key]).cells=(x.term key).cells:=by
        show [PV.int .i64 3,.str [115,105,103,110],.int .i64 0,slV false 4 (Za [x.body,key])]= [PV.int .i64 3,.str [115,105,103,110],.int .i64 0,slV true 4 (Za [x.body,key])]
        simp only [Za]
        rw [Zw,Zw]
       rw [e]
       exact Zz _ _ _) H
     have hfr:=Yr 0 hNil (if (x.term key).valid≠0 then (Tm.zero,(x.term key).valid) else (x.term key,0)).1 (if (x.term key).valid≠0 then (Tm.zero,(x.term key).valid) else (x.term key,0)).2
     generalize x.term key=T at c4 c5 hfr ⊢
     generalize T.valid=e at c4 hfr ⊢
     generalize x.body=B at c3 c5
     clear hp he hpl hel hks hks2 hk hk2 h1 v1 v2 hok
     have hft:=fun m H=>Yr m H T 0
     obtain ⟨k7,m7,s7,b7,q7⟩:=T
     obtain ⟨k5,m5,s5,b5,q5⟩:=B
     obtain ⟨k6,m6,s6,b6,q6⟩:=key
     obtain ⟨sub,⟨k4,m4,s4,b4,q4⟩,iss,pn,per,en,exc,ser,fr,till⟩:=x
     simp only [Tm.cells] at c2 c3 c4 c5 hft
     simp only [Cred.cells,Tm.cells,List.cons_append,List.nil_append] at c1 c3 ⊢
     refine Zm (own:=fun d=>Nat.beq d 30006) tOk fe138.ok (by simp only [ZJ,frzG,XY,ZD];rfl) hfr ?_
     refine Wp.seq ?_
     repeat' first|(apply qCl;rfl;rfl;rfl;rfl;first|exact c1 _|exact c2 _|exact c4 _)|refine Jt ?_|refine Jb ?_ ?_|refine Jo ?_|refine Jd (c3 _) ?_|refine Jd (c5 _) ?_|(apply dAl;rfl;rfl;rfl;rfl;exact IsV.ptrM;exact IsH.mkN)|refine JB ?_|refine Jh ?_|(apply dWB tOk follows;rfl;kernel_rfl;rfl;exact IsH.mkN)|intro hb
     · rw [if_pos (by simpa using hb), Zk]
       rfl
     · rw [if_neg (by simpa using hb)]
       exact hft _ _
   · rw [if_pos v2]
     generalize key.key=e at c2 v2 ⊢
     clear hp he hpl hel hks hks2 hk hk2 h1 v1
     have hfr:=hfz e
     obtain ⟨k6,m6,s6,b6,q6⟩:=key
     obtain ⟨sub,⟨k4,m4,s4,b4,q4⟩,iss,pn,per,en,exc,ser,fr,till⟩:=x
     simp only [Tm.cells] at c2
     simp only [Cred.cells,Tm.cells,List.cons_append,List.nil_append] at c1 ⊢
     refine Jw tOk fe138.ok hfr ?_
     repeat' first|refine Jc (c1 _) ?_|refine Jc (c2 _) ?_|refine Jt ?_|refine Jb ?_ ?_|refine Jo ?_|refine Jh ?_|(apply dWB tOk follows;rfl;kernel_rfl;rfl;exact IsH.mkN)|intro hb
     all_goals first
      | (exfalso;simp at hb;exact v2 hb)
      | (rw [Zk];rfl)
 · rw [if_pos v1]
   generalize x.valid=e at c1 v1 ⊢
   clear hp he hpl hel hks hks2 hk hk2 h1 c2
   have hfr:=hfz e
   obtain ⟨k6,m6,s6,b6,q6⟩:=key
   obtain ⟨sub,⟨k4,m4,s4,b4,q4⟩,iss,pn,per,en,exc,ser,fr,till⟩:=x
   simp only [Cred.cells,Tm.cells,List.cons_append,List.nil_append] at c1 ⊢
   refine Jw tOk fe138.ok hfr ?_
   repeat' first|refine Jc (c1 _) ?_|refine Jb ?_ ?_|refine Jo ?_|intro hb
   all_goals first
    | (exfalso;simp at hb;exact v1 hb)
    | (rw [Zk];rfl)
