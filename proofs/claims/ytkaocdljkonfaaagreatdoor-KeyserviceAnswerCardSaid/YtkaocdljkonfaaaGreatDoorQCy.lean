/-
  Credentials: issued by the reference's text. Credentials: what the program reads out of a term.
-/
import Derived.Test.YtkaocdljkonfaaaGreatDoorQCw
import Derived.Lib.ItoaLen
set_option maxHeartbeats 64000000
set_option maxRecDepth 100000
namespace Go.Vm.Seat
variable {es nt:Nat} {L:List (List PV)} {out:PV} {lv:List Nat} {t u:Tm}
open Go.Proofs
theorem Zpb {d:Nat} (hd:d<10):ZcM E0 182 9 (.sl .full 1 [[.int .u8 (IntKind.u8.wrap (IntKind.i64.wrap (48+(d:Int))))]])=some (.str [UInt8.ofNat (48+d)]):=by
 have e1:IntKind.u8.wrap (IntKind.i64.wrap (48+(d:Int)))=((48+d:Nat):Int):=by
  rcases (show d=0∨d=1∨d=2∨d=3∨d=4∨d=5∨d=6∨d=7∨d=8∨d=9 by omega) with rfl|rfl|rfl|rfl|rfl|rfl|rfl|rfl|rfl|rfl<;>rfl
 rw [e1]
 rcases (show d=0∨d=1∨d=2∨d=3∨d=4∨d=5∨d=6∨d=7∨d=8∨d=9 by omega) with rfl|rfl|rfl|rfl|rfl|rfl|rfl|rfl|rfl|rfl<;>rfl
theorem Za5:∀ (f u:Nat),u<10 ^ f→u≤100000→∀ H,CallOk E0 Tryz.prog 182 [.int .i64 (u:Int)] H (.str (Lib.decDigits u)) H:=by
 intro f
 induction f with
 | zero =>
   intro u h _
   have:u=0:=by simpa using h
   subst this
   have hc:=Zpb (d:=0) (by omega)
   rw [ZlX (by omega)]
   refine Jw tOk fe182.ok rfl ?_
   repeat' first|refine Js ?_|(apply qCv;rfl;rfl;rfl;assumption;exact IsV.any _)|refine Jt ?_|refine Jo ?_|fail
   all_goals rfl
 | succ f ih =>
   intro u h hu
   by_cases hlt:u<10
   · have hc := Zpb (d := u) hlt
     rw [ZlX hlt]
     refine Jw tOk fe182.ok rfl ?_
     repeat' first|refine Js ?_|(apply qCv;rfl;rfl;rfl;assumption;exact IsV.any _)|refine Jb ?_ ?_|refine Jo ?_|refine Jh ?_|(apply Wp.draw tOk follows;kernel_rfl)|intro hb
     · rfl
     · exfalso;simp at hb;omega
   · have hq : IntKind.i64.wrap ((u : Int).tdiv 10) = ((u / 10 : Nat) : Int) := by
       have:(u:Int).tdiv 10=((u / 10:Nat):Int):=by rw [Int.tdiv_eq_ediv_of_nonneg (by omega)];omega
       rw [this];exact Zf (by omega)
     have hm:(u:Int).tmod 10=((u % 10:Nat):Int):=by rw [Int.tmod_eq_emod_of_nonneg (by omega)];omega
     have hr:=ih (u / 10) (by rw [Nat.pow_succ] at h;omega) (by omega)
     rw [← hq] at hr
     have hc:=Zpb (d:=u % 10) (by omega)
     rw [← hm] at hc
     have hlen:(Lib.decDigits (u / 10)).length≤1000:=by
      rw [Lib.decDigits_length]
      have:=Lib.nDigits_le20 (u / 10) (by omega)
      omega
     rw [Zli hlt]
     generalize Lib.decDigits (u / 10)=s at hr hlen ⊢
     have had:ZQ E0 .add 9 (.str s) (.str [UInt8.ofNat (48+u % 10)])=some (.str (s++ [UInt8.ofNat (48+u % 10)])):=by
      show Zfj .add s _=_
      simp only [Zfj]
      rw [if_pos (by simp;omega)]
     refine Jw tOk fe182.ok rfl ?_
     repeat' first|refine Js ?_|refine Jb ?_ ?_|refine Jo ?_|refine Jd (hr _) ?_|refine JB ?_|refine JD ?_|(apply dCv;rfl;rfl;rfl;assumption;exact IsV.any _;rfl)|refine Jh ?_|(apply Wp.draw tOk follows;kernel_rfl)|intro hb
     · exfalso;simp at hb;omega
     · rfl
theorem ZoC {n:Int} (h0:0≤n) (h1:n≤9999):∀ H,CallOk E0 Tryz.prog 181 [.int .i64 n] H (.agg (Qn n).cells) H:=by
 have hl:=Us h0 h1
 have hat:=ZnW (110::Lib.itoa n)
 have hc:∀ H,CallOk E0 Tryz.prog 182 [.int .i64 n] H (.str (Lib.itoa n)) H:=by
  obtain ⟨u,rfl⟩:∃ u:Nat,n=(u:Int):=⟨n.toNat,by omega⟩
  have e:Lib.itoa (u:Int)=Lib.decDigits u:=by
   unfold Lib.itoa
   rw [if_neg (by omega)]
   rfl
  rw [e]
  exact Za5 5 u (by omega) (by omega)
 unfold Qn
 generalize Lib.itoa n=s at hc hat hl ⊢
 have had:ZQ E0 .add 9 (.str [110]) (.str s)=some (.str (110::s)):=by
  show Zfj .add [110] s=_
  simp only [Zfj]
  rw [if_pos (by simp;omega)]
  rfl
 rw [ZD] at hat ⊢
 refine Jw tOk fe181.ok rfl ?_
 repeat' first|refine Jc (hc _) ?_|refine Jc (hat _) ?_|refine Ji ?_|refine Jo ?_|fail
 all_goals rfl
theorem Zmm (h:ApV false es L out lv nt):∃ tl,out= .sl tl es L:=by
 cases h with
 |nil _ _ h=>cases h
 |full=>exact ⟨_,rfl⟩
 |tok=>exact ⟨_,rfl⟩
theorem c34 (nm:Bs) {l:List Tm} (hlen:l.length≤10000) (b:Bool):∀ H,CallOk E0 Tryz.prog 34 [.str nm,slV b 4 (Za l)] H (.agg (Tm.mk 3 nm 0 false l).cells) H:=by
 have hA0:ApV false 4 [] (.sl .full 4 []) [] 0:= .full [] _ _ rfl rfl
 obtain ⟨out',lv',nt',hap,hA', -⟩:=hA0.app Yw (.slV b 4 (Za l)) (Zm _) (ZU (by simp only [Zb,List.length_nil];omega) (by decide)) (Zv _)
 rw [List.nil_append] at hA'
 have hco:=Q6 hA' 3 nm 0
 have hfr:=fun m H=>Zgv hA' m H 3 nm 0
 simp only [Tm.cells]
 obtain ⟨tl,rfl⟩:=Zmm hA'
 refine Jw tOk fe34.ok (Z3 _ _ _ _ _ _ _) ?_
 repeat' first|refine Js ?_|refine JA ?_|refine Jo ?_|fail
 exact hfr _ _
theorem Zma (b:Bool) (a:Tm) (r:List Tm):ZW E0 22 (slV b 4 (Za (a::r))) (some (.int .i64 1)) none none=some (.sl .none 4 (Za r)):=by
 have e:E0.T 22=some ⟨.slice 24,1,24,.nils⟩:=by kernel_rfl
 have et:E0.T 24=some ⟨.struct [(0,3),(1,9),(2,3),(3,22)],4,56,.agg [.int .i64 0,.str [],.int .i64 0,.nils]⟩:=by kernel_rfl
 have en:nat? (.int .i64 1)=some 1:=rfl
 rw [show Za (a::r)=a.cells::Za r from rfl,Zw]
 simp only [ZW,e,et,if_true,UZ,Y3,en]
 rw [if_pos (by simp)]
 simp [ZbI]
theorem QT:∀ {l:List Tm} (_:l≠ []) (_:l.length≤10000) (b:Bool),∀ H,CallOk E0 Tryz.prog 177 [slV b 4 (Za l)] H (.agg (XQ l).cells) H:=by
 intro l
 induction l with
 |nil=>intro h;exact absurd rfl h
 | cons a r ih =>
   intro _ hlen b
   cases r with
   | nil =>
     simp only [XQ]
     obtain ⟨k,nm,s,tb,kids⟩:=a
     have hj:=Zl (l:=[Tm.mk k nm s tb kids]) (i:=0) rfl
     simp only [Tm.cells]
     refine Jw tOk fe177.ok (Z3 _ _ _ _ _ _ _) ?_
     repeat' first|refine Jl ?_|refine Jx ?_|refine Jt ?_|refine Jo ?_|fail
     all_goals first
      | exact Z3 _ _ _ _ _ _ _
      | (exfalso;simp [Zb] at hb;done)
   | cons c r =>
     have hc:∀ H,CallOk E0 Tryz.prog 177 [.sl .none 4 (Za (c::r))] H (.agg (XQ (c::r)).cells) H:=by
      have:=ih (by simp) (by simp at hlen ⊢;omega) true
      rw [show slV true 4 (Za (c::r))= .sl .none 4 (Za (c::r)) from Zw _ _ _ _] at this
      exact this
     have ht:=Zma b a (c::r)
     have hj:(Za (a::c::r))[0]? = some a.cells:=rfl
     have ha:∀ H,CallOk E0 Tryz.prog 34 [.str [112,97,105,114],.sl .full 4 [a.cells,(XQ (c::r)).cells]] H (.agg (XQ (a::c::r)).cells) H:=fun H=>
      Z8 (c34 [112,97,105,114] (l:=[a,XQ (c::r)]) (by simp) true hNil) (by
       simp only [Za]
       rw [Zw]
       obtain ⟨k5,m5,s5,b5,q5⟩:=a
       obtain ⟨k6,m6,s6,b6,q6⟩:=XQ (c::r)
       rfl) (by
       have e:(Tm.mk 3 [112,97,105,114] 0 false [a,XQ (c::r)]).cells=(XQ (a::c::r)).cells:=by
        show [PV.int .i64 3,.str [112,97,105,114],.int .i64 0,slV false 4 (Za [a,XQ (c::r)])]= [PV.int .i64 3,.str [112,97,105,114],.int .i64 0,slV true 4 (Za [a,XQ (c::r)])]
        simp only [Za]
        rw [Zw,Zw]
       rw [e]
       exact ZB _ _ _) H
     have hcl:(Za (a::c::r)).length=r.length+2:=by simp [Zb]
     generalize Za (a::c::r)=L at ht hj hcl ⊢
     generalize XQ (a::c::r)=T at ha ⊢
     generalize XQ (c::r)=U at hc ha
     obtain ⟨k,nm,s,tb,kids⟩:=a
     obtain ⟨k5,m5,s5,b5,q5⟩:=T
     obtain ⟨k6,m6,s6,b6,q6⟩:=U
     simp only [Tm.cells] at hc ha hj ⊢
     refine Jw tOk fe177.ok (Z3 _ _ _ _ _ _ _) ?_
     repeat' first|refine Jl ?_|refine Jx ?_|refine Jb ?_ ?_|refine Jo ?_|refine Jd (hc _) ?_|refine Jd (ha _) ?_|refine JB ?_|(apply dSl;rfl;rfl;rfl;rfl;rfl;rfl;assumption;exact IsV.any _;rfl)|refine JI ?_|refine Jh ?_|(apply Wp.drawS tOk follows;kernel_rfl;rfl)|intro hb
     all_goals first
      | exact Z3 _ _ _ _ _ _ _
      | (exfalso;rw [hcl] at hb;simp at hb;done)
      | (exfalso;rw [hcl] at hb;simp at hb;omega)
theorem ZqI {s:Bs} (hs:s.length≤100000) (hd:ZK s=true):∀ H,CallOk E0 Tryz.prog 178 [.str s] H (.agg (YK s).cells) H:=by
 have hc:=ZqD hs
 have h4:=(UL hd).1
 have hall:(ZE s).all Yr=true:=by
  unfold ZK at hd
  simp only [Bool.and_eq_true] at hd
  exact hd.2
 unfold XE at hc
 rw [hall] at hc
 unfold YK
 generalize ZE s=l at hc h4 ⊢
 have hc:∀ H,CallOk E0 Tryz.prog 164 [.str s] H (.tup [.sl .none 1 (ZI l),.bool (decide (l.length≤4))]) H:=hc
 clear hall hd
 rw [show decide (l.length≤4)=true by simpa using h4] at hc
 have hpl:(ZI l).length=l.length:=by simp [ZI]
 refine Jw tOk fe178.ok (ZB _ _ _) ?_
 repeat' first|refine Jc (hc _) ?_|refine Jt ?_|refine Jo ?_|fail
 refine Wp.while (fun m tm H => ∃ (i : Nat) (base : TM) (out : PV) (lv : List Nat) (nt : Nat), i + m = l.length ∧ ApV true 4 (Za ((l.take i).map fun x => Yl x 4)) out lv nt ∧
   tm=ovr base [(2,.ptr 0 4 0 0),(5,out),(3,.sl .none 1 (ZI l)),(6,.int .i64 (i:Int))]∧H=⟨[.cells 4 [[.int .i64 0,.str [],.int .i64 0,.nils]]],0,lv,nt⟩)
  (fun m tm H hI=>?_) l.length _ _ ⟨0,_,_,_,_,by omega,.nil _ _ rfl,Zh ⟨rfl,rfl,rfl,rfl,trivial⟩,rfl⟩
 obtain ⟨i,base,out,lv,nt,hi,hA,rfl,rfl⟩:=hI
 by_cases hlt:i<l.length
 · obtain ⟨x, hx⟩ : ∃ x, l[i]? = some x := ⟨l[i], by simp⟩
   have hia:=ZoY hx
   have hat:=ZnW x
   have hlen1:((l.take i).map fun x=>Yl x 4).length≤4:=by rw [List.length_map,List.length_take];omega
   obtain ⟨out',lv',nt',hap,hA', -⟩:=hA.app Yw (.sl .full 4 (Za [Yl x 4])) (Zm _) (ZU (by simp only [Zb,List.length_cons,List.length_nil];omega) (by decide)) (Zv _)
   rw [← Zk] at hA'
   have hs:((l.take i).map fun x=>Yl x 4)++ [Yl x 4]=(l.take (i+1)).map fun x=>Yl x 4:=by simp [List.take_add_one,hx]
   rw [hs] at hA'
   rw [ZC,ZD] at hap
   rw [ZD] at hat
   repeat' first|refine Jc (hat _) ?_|refine Js ?_|refine JA ?_|refine JJ ?_|refine Jb ?_ ?_|refine Jo ?_|intro hb
   · exact LoopI.go (m-1) (by omega) ⟨i+1,_,out',lv',nt',by omega,hA',Zh ⟨rfl,rfl,rfl,Zi (Zf (n:=i+1) (by omega)),trivial⟩,rfl⟩
   · exfalso;rw [hpl] at hb;simp at hb;omega
 · have e : i = l.length := by omega
   subst e
   rw [List.take_length] at hA
   have he:=Zoi
   obtain ⟨out',lv',nt',hap,hA', -⟩:=hA.app Yw (.sl .full 4 (Za [endT])) (Zm _) (ZU (by simp only [Zb,List.length_cons,List.length_nil,List.length_map];omega) (by decide)) (Zv _)
   rw [← Zk] at hA'
   rw [ZC,show endT=Yl [101,110,100] 5 from rfl,ZD] at hap
   rw [ZD] at he
   have ht:∀ H,CallOk E0 Tryz.prog 177 [out'] H (.agg (XQ ((l.map fun x=>Yl x 4)++ [endT])).cells) H:=fun H=>Z8 (QT (l:=(l.map fun x=>Yl x 4)++ [endT]) (by simp) (by simp;omega) true hNil) (by simp only [ZZ,hA'.frzG]) (ZB _ _ _) H
   generalize XQ ((l.map fun x=>Yl x 4)++ [endT])=t at ht ⊢
   obtain ⟨k',nm',s',b',kids'⟩:=t
   simp only [Tm.cells] at ht ⊢
   repeat' first|refine Jc (he _) ?_|refine Jc (ht _) ?_|refine Js ?_|refine JA ?_|refine Jb ?_ ?_|refine Jo ?_|intro hb
   · exfalso;rw [hpl] at hb;simp at hb
   · exact Z3 _ _ _ _ _ _ _
theorem ZqA {l:List Bs} (hs:∀ s,s∈l→s.length≤100000) (hd:∀ s,s∈l→ZK s=true) (hlen:l.length≤1000) (b:Bool):∀ H,CallOk E0 Tryz.prog 180 [slV b 1 (Y1 l)] H (.agg (XG l).cells) H:=by
 unfold XG
 refine Jw tOk fe180.ok (ZB _ _ _) ?_
 repeat' first|refine Jo ?_|fail
 refine Wp.while (fun m tm H => ∃ (i : Nat) (base : TM) (out : PV) (lv : List Nat) (nt : Nat), i + m = l.length ∧ ApV true 4 (Za ((l.take i).map YK)) out lv nt ∧
   tm=ovr base [(0,slV b 1 (Y1 l)),(2,.ptr 0 4 0 0),(3,out),(4,.int .i64 (i:Int))]∧H=⟨[.cells 4 [[.int .i64 0,.str [],.int .i64 0,.nils]]],0,lv,nt⟩)
  (fun m tm H hI=>?_) l.length _ _ ⟨0,_,_,_,_,by omega,.nil _ _ rfl,Zh ⟨rfl,rfl,rfl,rfl,trivial⟩,rfl⟩
 obtain ⟨i,base,out,lv,nt,hi,hA,rfl,rfl⟩:=hI
 by_cases hlt:i<l.length
 · obtain ⟨x, hx⟩ : ∃ x, l[i]? = some x := ⟨l[i], by simp⟩
   have hj:=Qw hx
   have hat:=ZqI (hs x (List.mem_of_getElem? hx)) (hd x (List.mem_of_getElem? hx))
   have hlen1:((l.take i).map YK).length≤1000:=by rw [List.length_map,List.length_take];omega
   obtain ⟨out',lv',nt',hap,hA', -⟩:=hA.app Yw (.sl .full 4 (Za [YK x])) (Zm _) (ZU (by simp only [Zb,List.length_cons,List.length_nil];omega) (by decide)) (Zv _)
   rw [← Zk] at hA'
   have hs:(l.take i).map YK++ [YK x]=(l.take (i+1)).map YK:=by simp [List.take_add_one,hx]
   rw [hs] at hA'
   rw [ZC] at hap
   generalize YK x=t at hap hat
   obtain ⟨k',nm',s',b',kids'⟩:=t
   simp only [Tm.cells] at hat hap
   repeat' first|refine Jc (hat _) ?_|refine Js ?_|refine JA ?_|refine Jl ?_|refine Jx ?_|refine Jb ?_ ?_|refine Jo ?_|intro hb
   · exact LoopI.go (m-1) (by omega) ⟨i+1,_,out',lv',nt',by omega,hA',Zh ⟨rfl,rfl,rfl,Zi (Zf (n:=i+1) (by omega)),trivial⟩,rfl⟩
   · exfalso;rw [XD] at hb;simp at hb;omega
 · have e : i = l.length := by omega
   subst e
   rw [List.take_length] at hA
   have he:=Zoi
   obtain ⟨out',lv',nt',hap,hA', -⟩:=hA.app Yw (.sl .full 4 (Za [endT])) (Zm _) (ZU (by simp only [Zb,List.length_cons,List.length_nil,List.length_map];omega) (by decide)) (Zv _)
   rw [← Zk] at hA'
   rw [ZC,show endT=Yl [101,110,100] 5 from rfl,ZD] at hap
   rw [ZD] at he
   have ht:∀ H,CallOk E0 Tryz.prog 177 [out'] H (.agg (XQ (l.map YK++ [endT])).cells) H:=fun H=>Z8 (QT (l:=l.map YK++ [endT]) (by simp) (by simp;omega) true hNil) (by simp only [ZZ,hA'.frzG]) (ZB _ _ _) H
   generalize XQ (l.map YK++ [endT])=t at ht ⊢
   obtain ⟨k',nm',s',b',kids'⟩:=t
   simp only [Tm.cells] at ht ⊢
   repeat' first|refine Jc (he _) ?_|refine Jc (ht _) ?_|refine Js ?_|refine JA ?_|refine Jl ?_|refine Jb ?_ ?_|refine Jo ?_|intro hb
   · exfalso;rw [XD] at hb;simp at hb
   · exact Z3 _ _ _ _ _ _ _
theorem c145 {x:Cred} (h:CredOk x) (h1:x.sub.length≤100000) (hp:∀ s,s∈x.per→s.length≤100000) (he:∀ s,s∈x.exc→s.length≤100000):∀ H,CallOk E0 Tryz.prog 145 [.agg x.cells] H (.agg x.body.cells) H:=by
 have ct:∀ H,CallOk E0 Tryz.prog 177 [.sl .full 4 (Za x.bodyL)] H (.agg x.body.cells) H:=fun H=>Z8 (QT (l:=x.bodyL) (by simp [Cred.bodyL]) (by simp [Cred.bodyL]) true hNil) (by
  simp only [Cred.bodyL,Za]
  rw [Zw]
  rfl) (ZB _ _ _) H
 obtain ⟨sub,key,iss,pn,per,en,exc,ser,fr,till⟩:=x
 obtain ⟨d1,d2,d3,l1,l2,⟨n1,n2⟩,⟨n3,n4⟩,n5,n6⟩:=h
 simp only at h1 hp he d1 d2 d3 l1 l2 n1 n2 n3 n4 n5 n6
 have c1:=ZqI h1 d1
 have c2:=ZqA hp d2 (by omega) pn
 have c3:=ZqA he d3 (by omega) en
 have c4:=ZoC n1 n2
 have c5:=ZoC n3 n4
 have c6:=ZoC n5 n6
 have ca:=c72 [99,101,114,116] 5
 have cf:=ZnW (ZcW iss)
 generalize hB:Cred.body ⟨sub,key,iss,pn,per,en,exc,ser,fr,till⟩=B at ct ⊢
 clear hB
 simp only [Cred.bodyL,Za,Qn] at ct
 simp only [Qn] at c4 c5 c6
 simp only [ZD] at ct c4 c5 c6 ca cf
 generalize YK sub=t1 at ct c1
 generalize XG per=t2 at ct c2
 generalize XG exc=t3 at ct c3
 generalize Lib.itoa ser=s1 at ct c4
 generalize Lib.itoa fr=s2 at ct c5
 generalize Lib.itoa till=s3 at ct c6
 obtain ⟨k1,m1,s1',b1,q1⟩:=t1
 obtain ⟨k2,m2,s2',b2,q2⟩:=t2
 obtain ⟨k3,m3,s3',b3,q3⟩:=t3
 obtain ⟨k4,m4,s4',b4,q4⟩:=key
 obtain ⟨k5,m5,s5',b5,q5⟩:=B
 simp only [Tm.cells] at ct c1 c2 c3
 simp only [Cred.cells,Tm.cells,List.cons_append,List.nil_append]
 cases iss
 all_goals
  simp only [ZcW,Bool.false_eq_true,if_false,if_true] at ct cf
  refine Jw tOk fe145.ok (Z3 _ _ _ _ _ _ _) ?_
  repeat' first|refine Jt ?_|refine Jo ?_|(apply dCl;rfl;rfl;rfl;rfl;rfl;first|exact ca _|exact c1 _|exact cf _|exact c2 _|exact c3 _|exact c4 _|exact c5 _|exact c6 _|exact ct _)|refine JB ?_|refine Jh ?_|(apply Wp.drawS tOk follows;kernel_rfl;rfl)|fail
  all_goals exact Z3 _ _ _ _ _ _ _
theorem c88 (x : Cred) {key : Tm} (h1 : x.sub.length ≤ 100000) (hp : ∀ s, s ∈ x.per → s.length ≤ 100000) (he : ∀ s, s ∈ x.exc → s.length ≤ 100000) (hpl : x.per.length ≤ 100000) (hel : x.exc.length ≤ 100000)
  (hk:x.key.Ok) (hks:x.key.size≤40000) (hk2:key.Ok) (hks2:key.size≤40000):∀ H,CallOk E0 Tryz.prog 88 [.agg x.cells,.agg key.cells] H (.tup [.agg (x.issue key).1.cells,.int .i64 (x.issue key).2]) H:=by
 have c1:=c69 x h1 hk (by omega) hp he hpl hel
 have c2:=Zqj hk2 (by omega)
 have hfz:=Yy 0 hNil Tm.zero
 unfold Cred.issue
 by_cases v1:x.valid=0
 · rw [if_neg (not_not_intro v1)]
   rw [v1] at c1
   by_cases v2:key.key=0
   · rw [if_neg (not_not_intro v2)]
     rw [v2] at c2
     have hok:=ZbT v1
     have c3:=c145 hok h1 hp he
     have c4:=Zkn (ZdE hok hk hk2) (by have:=Zac (key:=key) hok;omega)
     have c5:∀ H,CallOk E0 Tryz.prog 34 [.str [115,105,103,110],.sl .full 4 [x.body.cells,key.cells]] H (.agg (x.term key).cells) H:=fun H=>
      Z8 (c34 [115,105,103,110] (l:=[x.body,key]) (by simp) true hNil) (by
       simp only [Za]
       rw [Zw]
       obtain ⟨k5,m5,s5,b5,q5⟩:=x.body
       obtain ⟨k6,m6,s6,b6,q6⟩:=key
       rfl) (by
       have e:(Tm.mk 3 [115,105,103,110] 0 false [x.body,key]).cells=(x.term key).cells:=by
        show [PV.int .i64 3,.str [115,105,103,110],.int .i64 0,slV false 4 (Za [x.body,key])]= [PV.int .i64 3,.str [115,105,103,110],.int .i64 0,slV true 4 (Za [x.body,key])]
        simp only [Za]
        rw [Zw,Zw]
       rw [e]
       exact ZB _ _ _) H
     have hfr:=Yy 0 hNil (if (x.term key).valid≠0 then (Tm.zero,(x.term key).valid) else (x.term key,0)).1 (if (x.term key).valid≠0 then (Tm.zero,(x.term key).valid) else (x.term key,0)).2
     generalize x.term key=T at c4 c5 hfr ⊢
     generalize T.valid=e at c4 hfr ⊢
     generalize x.body=B at c3 c5
     clear hp he hpl hel hks hks2 hk hk2 h1 v1 v2 hok
     have hft:=fun m H=>Yy m H T 0
     obtain ⟨k7,m7,s7,b7,q7⟩:=T
     obtain ⟨k5,m5,s5,b5,q5⟩:=B
     obtain ⟨k6,m6,s6,b6,q6⟩:=key
     obtain ⟨sub,⟨k4,m4,s4,b4,q4⟩,iss,pn,per,en,exc,ser,fr,till⟩:=x
     simp only [Tm.cells] at c2 c3 c4 c5 hft
     simp only [Cred.cells,Tm.cells,List.cons_append,List.nil_append] at c1 c3 ⊢
     refine Zt (own:=fun d=>Nat.beq d 30006) tOk fe88.ok (by simp only [ZZ,frzG,Vc,Z5];rfl) hfr ?_
     refine Wp.seq ?_
     repeat' first|(apply qCl;rfl;rfl;rfl;rfl;first|exact c1 _|exact c2 _|exact c4 _)|refine Jt ?_|refine Jb ?_ ?_|refine Jo ?_|refine Jd (c3 _) ?_|refine Jd (c5 _) ?_|(apply dAl;rfl;rfl;rfl;rfl;exact IsV.ptrM;exact IsH.mkN)|refine JB ?_|refine Jh ?_|(apply dWB tOk follows;rfl;kernel_rfl;rfl;exact IsH.mkN)|intro hb
     · rw [if_pos (by simpa using hb), Zq]
       rfl
     · rw [if_neg (by simpa using hb)]
       exact hft _ _
   · rw [if_pos v2]
     generalize key.key=e at c2 v2 ⊢
     clear hp he hpl hel hks hks2 hk hk2 h1 v1
     have hfr:=hfz e
     obtain ⟨k6,m6,s6,b6,q6⟩:=key
     obtain ⟨sub,⟨k4,m4,s4,b4,q4⟩,iss,pn,per,en,exc,ser,fr,till⟩:=x
     simp only [Tm.cells] at c2
     simp only [Cred.cells,Tm.cells,List.cons_append,List.nil_append] at c1 ⊢
     refine Jw tOk fe88.ok hfr ?_
     repeat' first|refine Jc (c1 _) ?_|refine Jc (c2 _) ?_|refine Jt ?_|refine Jb ?_ ?_|refine Jo ?_|refine Jh ?_|(apply dWB tOk follows;rfl;kernel_rfl;rfl;exact IsH.mkN)|intro hb
     all_goals first
      | (exfalso;simp at hb;exact v2 hb)
      | (rw [Zq];rfl)
 · rw [if_pos v1]
   generalize x.valid=e at c1 v1 ⊢
   clear hp he hpl hel hks hks2 hk hk2 h1 c2
   have hfr:=hfz e
   obtain ⟨k6,m6,s6,b6,q6⟩:=key
   obtain ⟨sub,⟨k4,m4,s4,b4,q4⟩,iss,pn,per,en,exc,ser,fr,till⟩:=x
   simp only [Cred.cells,Tm.cells,List.cons_append,List.nil_append] at c1 ⊢
   refine Jw tOk fe88.ok hfr ?_
   repeat' first|refine Jc (c1 _) ?_|refine Jb ?_ ?_|refine Jo ?_|intro hb
   all_goals first
    | (exfalso;simp at hb;exact v1 hb)
    | (rw [Zq];rfl)
open Go.Proofs
theorem ZqG (ht:t.Ok) (hu:u.Ok) (h1:t.size≤1000000) (h2:u.size≤1000000):∀ H,CallOk E0 Tryz.prog 110 [.agg t.cells,.agg u.cells] H (.bool (decide (t.cmp u=0))) H:=by
 have hc:∀ H,CallOk E0 Tryz.prog 77 [.agg t.cells,.agg u.cells] H (.int .i64 (t.cmp u)) H:=fun H=>Zkq (d77 ht hu (by omega) (by omega) H)
 generalize t.cmp u=c at hc
 obtain ⟨k,nm,s,b,kids⟩:=t
 obtain ⟨k',nm',s',b',kids'⟩:=u
 refine Jw tOk fe110.ok rfl ?_
 repeat' first|refine Jc (hc _) ?_|refine Jt ?_|refine Jb ?_ ?_|refine Jo ?_|intro hb
 all_goals (refine ifq ?_;simp at hb;simp [hb])
theorem c23 (ht:t.Ok) (hu:u.Ok) (h1:t.size≤1000000) (h2:u.size≤1000000):∀ H,CallOk E0 Tryz.prog 23 [.agg t.cells,.agg u.cells] H (.bool (decide (t.cmp u=0))) H:=by
 have hc:∀ H,CallOk E0 Tryz.prog 61 [.agg t.cells,.agg u.cells] H (.int .i64 (t.cmp u)) H:=fun H=>Zkq (d61 ht hu (by omega) (by omega) H)
 generalize t.cmp u=c at hc
 obtain ⟨k,nm,s,b,kids⟩:=t
 obtain ⟨k',nm',s',b',kids'⟩:=u
 refine Jw tOk fe23.ok rfl ?_
 repeat' first|refine Jc (hc _) ?_|refine Jt ?_|refine Jb ?_ ?_|refine Jo ?_|intro hb
 all_goals (refine ifq ?_;simp at hb;simp [hb])
theorem Ze1 (m:Nat) (H:Heap) (b:Bool) (es:Nat) (el:List (List PV)):frz2 m H (slV b es el)=some (slV b es el):=by
 unfold slV
 cases el with
 |nil=>cases b<;>rfl
 |cons c r=>rfl
theorem Zbw {b:Bool} (h:ApV b es L out lv nt) (m:Nat) (H:Heap) (x:Bool):frz3 m H (.tup [out,.bool x])=some (.tup [slV b es L,.bool x]):=by
 have h1:=h.frz2 m H
 show (match YL m H [out,.bool x] with|some vs'=>some (PV.tup vs')|none=>none)=_
 simp only [YL,h1]
 rfl
theorem Qv (m:Nat) (H:Heap) (b:Bool) (es:Nat) (L:List (List PV)) (x:Bool):frz3 m H (.tup [slV b es L,.bool x])=some (.tup [slV b es L,.bool x]):=by
 show (match YL m H [slV b es L,.bool x] with|some vs'=>some (PV.tup vs')|none=>none)=_
 simp only [YL,Ze1]
 rfl
theorem ZqM (ht:t.Ok) (hsz:t.size≤90000):∀ H,CallOk E0 Tryz.prog 153 [.agg t.cells] H (.tup [slV true 4 (Za t.parts.1),.bool (decide (t.parts.2.cmp endT=0))]) H:=by
 have hsame:=ZqG (ht.part (Za7 t)) Zft (by have:=(Za7 t).1;omega) (by decide)
 have hat:=ZlT [101,110,100] 5
 rw [show endT.cells= [.int .i64 2,.str [101,110,100],.int .i64 5,.nils] from ZD _ _] at hsame
 rw [ZD] at hat
 have hcells:∃ k nm s b kids,t= .mk k nm s b kids:=by obtain ⟨k,nm,s,b,kids⟩:=t;exact ⟨_,_,_,_,_,rfl⟩
 obtain ⟨P,hP⟩:∃ P,P=t.parts:=⟨_,rfl⟩
 rw [← hP] at hsame ⊢
 obtain ⟨l,e⟩:=P
 simp only at hsame ⊢
 generalize decide (e.cmp endT=0)=R at hsame ⊢
 refine Zt (own:=fun d=>Nat.beq d 5013) tOk fe153.ok (by obtain ⟨k,nm,s,b,kids⟩:=t;simp [ZZ,frzG,Tm.cells,Va]) (Qv _ _ _ _ _ _) ?_
 refine Wp.seq ?_
 obtain ⟨k0,nm0,s0,b0,kids0,ht0⟩:=hcells
 rw [show t.cells= [.int .i64 k0,.str nm0,.int .i64 s0,slV b0 4 (Za kids0)] by rw [ht0];rfl]
 repeat' first|refine Jt ?_|refine Jo ?_|fail
 refine Wp.while (fun m tm H => ∃ (acc : List Tm) (u : Tm) (base : TM) (out : PV) (lv : List Nat) (nt : Nat), u.size ≤ m ∧ acc.length + u.size ≤ t.size ∧ u.within t ∧ (l, e) = (acc ++ u.parts.1, u.parts.2) ∧ ApV true 4 (Za acc) out lv nt ∧
   tm=ovr base [(1,.ptr 0 4 0 0),(4,out)]∧H=⟨[.cells 4 [u.cells]],0,lv,nt⟩)
  (fun m tm H hI=>?_) t.size _ _ ⟨[],t,_,_,_,_,Nat.le_refl _,by simp,V6 t,by rw [hP];rfl,.nil _ _ rfl,Zh ⟨rfl,rfl,trivial⟩,by rw [ht0];rfl⟩
 obtain ⟨acc,u,base,out,lv,nt,hm,hal,hw,hpq,hA,rfl,rfl⟩:=hI
 have his:=Zmo u [112,97,105,114] 2
 rw [ZbS] at his
 cases hp:Ym u with
 | none =>
   rw [hp] at his
   rw [Wy hp] at hpq
   simp only [List.append_nil,Prod.mk.injEq] at hpq
   obtain ⟨rfl,rfl⟩:=hpq
   have his2:∀ H,CallOk E0 Tryz.prog 105 [.agg e.cells,.str [112,97,105,114],.int .i64 2] H (.bool false) H:=his
   clear his
   obtain ⟨k,nm,s,b,kids⟩:=e
   simp only [Tm.cells] at his2 hsame ⊢
   cases R
   all_goals
    repeat' first|refine Jc (his2 _) ?_|refine Jo ?_|refine Jd (hat _) ?_|refine Jd (hsame _) ?_|(apply dT (ty:=4);rfl;rfl;rfl;rfl)|(apply dF (ty:=4);rfl;rfl;rfl;rfl)|refine Jh ?_|(apply Wp.drawS tOk follows;kernel_rfl;rfl)|fail
    all_goals exact Zbw hA _ _ _
 | some q =>
   obtain ⟨x,y⟩:=q
   rw [hp] at his
   obtain ⟨w1,w2,w3⟩:=YT hp
   rw [Vw hp] at hpq
   obtain ⟨s,b,rfl⟩:=Xz hp
   have his2:∀ H,CallOk E0 Tryz.prog 105 [.agg (Tm.mk 3 [112,97,105,114] s b [x,y]).cells,.str [112,97,105,114],.int .i64 2] H (.bool true) H:=his
   clear his
   have hx:=YY x
   obtain ⟨out',lv',nt',hap,hA', -⟩:=hA.app Yw (.sl .full 4 (Za [x])) (Zm _) (ZU (by simp only [Zb,List.length_cons,List.length_nil];omega) (by decide)) (Zv _)
   rw [← Zk] at hA'
   rw [ZC] at hap
   have hj0:(Za [x,y])[0]? = some x.cells:=rfl
   have hj1:(Za [x,y])[1]? = some y.cells:=rfl
   simp only [Tm.cells] at his2 ⊢
   generalize Za [x,y]=L at his2 hj0 hj1 ⊢
   obtain ⟨k1,nm1,s1,b1,kids1⟩:=x
   obtain ⟨k2,nm2,s2,b2,kids2⟩:=y
   simp only [Tm.cells] at hj0 hj1 hap
   repeat' first|refine Jc (his2 _) ?_|refine Jo ?_|refine JB ?_|(apply dAq;rfl;rfl;rfl;rfl;rfl;rfl;(first|assumption|solve_by_elim))|refine JI ?_|refine Jh ?_|(apply Wp.drawS tOk follows;kernel_rfl;rfl)|fail
   refine LoopI.go (Tm.mk k2 nm2 s2 b2 kids2).size (by omega) ⟨acc++ [Tm.mk k1 nm1 s1 b1 kids1],Tm.mk k2 nm2 s2 b2 kids2,_,out',lv',nt',Nat.le_refl _,by simp;omega,Yi w2 hw,by rw [hpq];simp,hA',Zh ⟨rfl,rfl,trivial⟩,rfl⟩
end Go.Vm.Seat
