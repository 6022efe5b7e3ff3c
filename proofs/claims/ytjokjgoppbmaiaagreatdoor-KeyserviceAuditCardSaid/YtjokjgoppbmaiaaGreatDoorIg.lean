/-
  Proofs of a fork: what the program answers, what the document answers.
-/
import Derived.Test.YtjokjgoppbmaiaaGreatDoorIf
import Derived.Test.YtjokjgoppbmaiaaGreatDoorGh
set_option maxHeartbeats 64000000
set_option maxRecDepth 100000
namespace Go.Vm.Seat
open Go.Proofs
theorem kid1_ok {t:Tm} (ht:t.Ok) {S:Nat} (hs:t.size≤S) (h1:1≤S):(kid1 t).Ok∧(kid1 t).size≤S:=by
 obtain ⟨k,nm,s,b,kids⟩:=t
 have hz:Tm.zero.Ok∧Tm.zero.size≤S:=⟨Tm.ok_zero,by have:Tm.zero.size=1:=rfl;omega⟩
 match kids with
 | []=>exact hz
 | [_]=>exact hz
 | a :: x :: r =>
   cases ht with
   | mk _ _ _ _ hk =>
     refine ⟨hk x (by simp),?_⟩
     simp only [Tm.size,sizeL] at hs
     show x.size≤S
     omega
theorem kid0_ok2 {t:Tm} (ht:t.Ok) {S:Nat} (hs:t.size≤S) (h1:1≤S):(kid0 t).Ok∧(kid0 t).size≤S:=by
 obtain ⟨k,nm,s,b,kids⟩:=t
 have hz:Tm.zero.Ok∧Tm.zero.size≤S:=⟨Tm.ok_zero,by have:Tm.zero.size=1:=rfl;omega⟩
 match kids with
 | []=>exact hz
 | x :: r =>
   cases ht with
   | mk _ _ _ _ hk =>
     refine ⟨hk x (by simp),?_⟩
     simp only [Tm.size,sizeL] at hs
     show x.size≤S
     omega
theorem sgX_ok {t:Tm} (ht:t.Ok) {S:Nat} (hs:t.size≤S) (h1:1≤S):((sgX t).Ok∧(sgX t).size≤S)∧(sgY t).Ok∧(sgY t).size≤S:=by
 have a:=kid0_ok2 ht hs h1
 have b:=kid1_ok a.1 a.2 h1
 exact ⟨kid0_ok2 b.1 b.2 h1,kid1_ok b.1 b.2 h1⟩
theorem signed_ex {t k:Tm} (ht:t.Ok) (hts:t.size≤1000000) (hk:k.Ok) (hks:k.size≤1000000):∃ X Y:Tm,(sgnF t k=true→X=sgX t∧Y=sgY t)∧∀ H,CallOk E0 Tryz.prog 88 [.agg t.cells,.agg k.cells] H (.tup [.agg X.cells,.agg Y.cells,.bool (sgnF t k)]) H:=by
 have h:=c88 (Z:= .zero) zero_cells ht hts hk hks
 unfold sgP at h
 cases e:sgnF t k with
 | true=>rw [e] at h;exact ⟨_,_,fun _=>⟨rfl,rfl⟩,h⟩
 | false=>rw [e] at h;exact ⟨_,_,fun q=>(by cases q),h⟩
theorem read_ex {t k:Tm} (ht:t.Ok) (hts:t.size≤1000000) (hk:k.Ok) (hks:k.size≤1000000):∃ X Y:Tm,(sgnF t k=true→X=sgX t∧Y=sgY t)∧∀ H,CallOk E0 Tryz.prog 96 [.agg t.cells,.agg k.cells] H (.tup [.agg X.cells,.agg Y.cells,.bool (sgnF t k)]) H:=by
 have h:=c96 (Z:=t) rfl ht hts hk hks
 unfold sgR at h
 rw [sgn_shp]
 cases e:shpF t k with
 | true =>
   rw [e] at h
   rw [Bool.true_and]
   exact ⟨_,_,fun _=>⟨rfl,rfl⟩,h⟩
 | false=>rw [e] at h;exact ⟨_,_,fun q=>(by simp at q),h⟩
theorem frz3T (a b k:Tm):frzGL [.agg a.cells,.agg b.cells,.agg k.cells]=some [.agg a.cells,.agg b.cells,.agg k.cells]:=by
 simp only [frzGL,frzG_tm2]
theorem c39 {a b k:Tm} (ha:a.Ok) (has:a.size≤1000000) (hb:b.Ok) (hbs:b.size≤1000000) (hk:k.Ok) (hks:k.size≤1000000):∀ H,CallOk E0 Tryz.prog 39 [.agg a.cells,.agg b.cells,.agg k.cells] H (.bool (forkF a b k)) H:=by
 obtain ⟨X,Y,e1,c1⟩:=signed_ex ha has hk hks
 obtain ⟨X',Y',e2,c2⟩:=signed_ex hb hbs hk hks
 have h1:=sgX_ok ha has (by omega)
 have h2:=sgX_ok hb hbs (by omega)
 have s1:=c89 h1.1.1 h2.1.1 h1.1.2 h2.1.2
 have s2:=c89 h1.2.1 h2.2.1 h1.2.2 h2.2.2
 have hfz:=frz3T a b k
 have e:forkF a b k=(sgnF a k && (sgnF b k && (decide ((sgX a).cmp (sgX b)=0) && !decide ((sgY a).cmp (sgY b)=0)))):=rfl
 rw [e]
 clear h1 h2 e ha hb hk has hbs hks
 generalize sgnF a k=A at e1 c1 ⊢
 generalize sgnF b k=B at e2 c2 ⊢
 have hO:A=false∨(A=true∧B=false)∨(A=true∧B=true):=by cases A <;> cases B <;> simp
 rcases hO with rfl | ⟨rfl,rfl⟩ | ⟨rfl,rfl⟩
 · simp only [Bool.false_and]
   clear e1 e2 s1 s2
   obtain ⟨k1,nm1,z1,t1,kids1⟩:=a
   obtain ⟨k2,nm2,z2,t2,kids2⟩:=b
   obtain ⟨k3,nm3,z3,t3,kids3⟩:=k
   obtain ⟨k4,nm4,z4,t4,kids4⟩:=X
   obtain ⟨k5,nm5,z5,t5,kids5⟩:=Y
   obtain ⟨k6,nm6,z6,t6,kids6⟩:=X'
   obtain ⟨k7,nm7,z7,t7,kids7⟩:=Y'
   simp only [Tm.cells] at c1 c2 hfz ⊢
   refine κw tOk fe39.ok rfl ?_ hfz
   repeat' first | refine κn ?_ | refine κk ?_ | refine κc (c1 _) ?_ | refine κc (c2 _) ?_ | refine κt ?_ | refine κg ?_ | refine κa ?_ | refine κf ?_ | fail
   all_goals rfl
 · simp only [Bool.false_and, Bool.true_and]
   clear e1 e2 s1 s2
   obtain ⟨k1,nm1,z1,t1,kids1⟩:=a
   obtain ⟨k2,nm2,z2,t2,kids2⟩:=b
   obtain ⟨k3,nm3,z3,t3,kids3⟩:=k
   obtain ⟨k4,nm4,z4,t4,kids4⟩:=X
   obtain ⟨k5,nm5,z5,t5,kids5⟩:=Y
   obtain ⟨k6,nm6,z6,t6,kids6⟩:=X'
   obtain ⟨k7,nm7,z7,t7,kids7⟩:=Y'
   simp only [Tm.cells] at c1 c2 hfz ⊢
   refine κw tOk fe39.ok rfl ?_ hfz
   repeat' first | refine κn ?_ | refine κk ?_ | refine κc (c1 _) ?_ | refine κc (c2 _) ?_ | refine κt ?_ | refine κg ?_ | refine κa ?_ | refine κf ?_ | fail
   all_goals rfl
 · simp only [Bool.true_and]
   obtain ⟨rfl,rfl⟩:=e1 rfl
   obtain ⟨rfl,rfl⟩:=e2 rfl
   clear e1 e2
   generalize decide ((sgX a).cmp (sgX b)=0)=D1 at s1 ⊢
   generalize decide ((sgY a).cmp (sgY b)=0)=D2 at s2 ⊢
   generalize sgX a=X at c1 s1
   generalize sgY a=Y at c1 s2
   generalize sgX b=X' at c2 s1
   generalize sgY b=Y' at c2 s2
   obtain ⟨k1,nm1,z1,t1,kids1⟩:=a
   obtain ⟨k2,nm2,z2,t2,kids2⟩:=b
   obtain ⟨k3,nm3,z3,t3,kids3⟩:=k
   obtain ⟨k4,nm4,z4,t4,kids4⟩:=X
   obtain ⟨k5,nm5,z5,t5,kids5⟩:=Y
   obtain ⟨k6,nm6,z6,t6,kids6⟩:=X'
   obtain ⟨k7,nm7,z7,t7,kids7⟩:=Y'
   simp only [Tm.cells] at c1 c2 s1 s2 hfz ⊢
   cases D1 <;> cases D2
   all_goals
    refine κw tOk fe39.ok rfl ?_ hfz
    repeat' first | refine κn ?_ | refine κk ?_ | (apply qCl;rfl;rfl;rfl;rfl;first | exact c1 _ | exact c2 _ | exact s1 _ | exact s2 _) | refine κt ?_ | refine κg ?_ | refine κa ?_ | refine κf ?_ | fail
   all_goals rfl
theorem c44 {a b k:Tm} (ha:a.Ok) (has:a.size≤1000000) (hb:b.Ok) (hbs:b.size≤1000000) (hk:k.Ok) (hks:k.size≤1000000):∀ H,CallOk E0 Tryz.prog 44 [.agg a.cells,.agg b.cells,.agg k.cells] H (.bool (forkF a b k)) H:=by
 obtain ⟨X,Y,e1,c1⟩:=read_ex ha has hk hks
 obtain ⟨X',Y',e2,c2⟩:=read_ex hb hbs hk hks
 have h1:=sgX_ok ha has (by omega)
 have h2:=sgX_ok hb hbs (by omega)
 have s1:=c15 h1.1.1 h2.1.1 h1.1.2 h2.1.2
 have s2:=c15 h1.2.1 h2.2.1 h1.2.2 h2.2.2
 have hfz:=frz3T a b k
 have e:forkF a b k=(sgnF a k && (sgnF b k && (decide ((sgX a).cmp (sgX b)=0) && !decide ((sgY a).cmp (sgY b)=0)))):=rfl
 rw [e]
 clear h1 h2 e ha hb hk has hbs hks
 generalize sgnF a k=A at e1 c1 ⊢
 generalize sgnF b k=B at e2 c2 ⊢
 have hO:A=false∨(A=true∧B=false)∨(A=true∧B=true):=by cases A <;> cases B <;> simp
 rcases hO with rfl | ⟨rfl,rfl⟩ | ⟨rfl,rfl⟩
 · simp only [Bool.false_and]
   clear e1 e2 s1 s2
   obtain ⟨k1,nm1,z1,t1,kids1⟩:=a
   obtain ⟨k2,nm2,z2,t2,kids2⟩:=b
   obtain ⟨k3,nm3,z3,t3,kids3⟩:=k
   obtain ⟨k4,nm4,z4,t4,kids4⟩:=X
   obtain ⟨k5,nm5,z5,t5,kids5⟩:=Y
   obtain ⟨k6,nm6,z6,t6,kids6⟩:=X'
   obtain ⟨k7,nm7,z7,t7,kids7⟩:=Y'
   simp only [Tm.cells] at c1 c2 hfz ⊢
   refine κw tOk fe44.ok rfl ?_ hfz
   repeat' first | refine κn ?_ | refine κk ?_ | refine κc (c1 _) ?_ | refine κc (c2 _) ?_ | refine κt ?_ | refine κg ?_ | refine κa ?_ | refine κf ?_ | fail
   all_goals rfl
 · simp only [Bool.false_and, Bool.true_and]
   clear e1 e2 s1 s2
   obtain ⟨k1,nm1,z1,t1,kids1⟩:=a
   obtain ⟨k2,nm2,z2,t2,kids2⟩:=b
   obtain ⟨k3,nm3,z3,t3,kids3⟩:=k
   obtain ⟨k4,nm4,z4,t4,kids4⟩:=X
   obtain ⟨k5,nm5,z5,t5,kids5⟩:=Y
   obtain ⟨k6,nm6,z6,t6,kids6⟩:=X'
   obtain ⟨k7,nm7,z7,t7,kids7⟩:=Y'
   simp only [Tm.cells] at c1 c2 hfz ⊢
   refine κw tOk fe44.ok rfl ?_ hfz
   repeat' first | refine κn ?_ | refine κk ?_ | refine κc (c1 _) ?_ | refine κc (c2 _) ?_ | refine κt ?_ | refine κg ?_ | refine κa ?_ | refine κf ?_ | fail
   all_goals rfl
 · simp only [Bool.true_and]
   obtain ⟨rfl,rfl⟩:=e1 rfl
   obtain ⟨rfl,rfl⟩:=e2 rfl
   clear e1 e2
   generalize decide ((sgX a).cmp (sgX b)=0)=D1 at s1 ⊢
   generalize decide ((sgY a).cmp (sgY b)=0)=D2 at s2 ⊢
   generalize sgX a=X at c1 s1
   generalize sgY a=Y at c1 s2
   generalize sgX b=X' at c2 s1
   generalize sgY b=Y' at c2 s2
   obtain ⟨k1,nm1,z1,t1,kids1⟩:=a
   obtain ⟨k2,nm2,z2,t2,kids2⟩:=b
   obtain ⟨k3,nm3,z3,t3,kids3⟩:=k
   obtain ⟨k4,nm4,z4,t4,kids4⟩:=X
   obtain ⟨k5,nm5,z5,t5,kids5⟩:=Y
   obtain ⟨k6,nm6,z6,t6,kids6⟩:=X'
   obtain ⟨k7,nm7,z7,t7,kids7⟩:=Y'
   simp only [Tm.cells] at c1 c2 s1 s2 hfz ⊢
   cases D1 <;> cases D2
   all_goals
    refine κw tOk fe44.ok rfl ?_ hfz
    repeat' first | refine κn ?_ | refine κk ?_ | (apply qCl;rfl;rfl;rfl;rfl;first | exact c1 _ | exact c2 _ | exact s1 _ | exact s2 _) | refine κt ?_ | refine κg ?_ | refine κa ?_ | refine κf ?_ | fail
   all_goals rfl
theorem frz2R (a b:Rd):frzGL [.agg a.cells,.agg b.cells]=some [.agg a.cells,.agg b.cells]:=by
 obtain ⟨⟨k1,nm1,s1,b1,kids1⟩,n,⟨k2,nm2,s2,b2,kids2⟩,k3,nm3,s3,b3,kids3⟩:=a
 obtain ⟨⟨k4,nm4,s4,b4,kids4⟩,n',⟨k5,nm5,s5,b5,kids5⟩,k6,nm6,s6,b6,kids6⟩:=b
 simp only [Rd.cells,Tm.cells,List.cons_append,List.nil_append,frzGL,frzG,frzL,frz1_slV]
 rfl
theorem c14 {a b:Rd} (ha:RdOk 20000 a) (hb:RdOk 20000 b):∀ H,CallOk E0 Tryz.prog 14 [.agg a.cells,.agg b.cells] H (.tup [.bool (audF a b).1,.int .i64 (audF a b).2]) H:=by
 obtain ⟨x,hx,c1⟩:=c37 ha
 obtain ⟨y,hy,c2⟩:=c37 hb
 have hk:=kid0_ok2 ha.1.1 ha.1.2 (by omega)
 have cs:=c38 ha.1.1 hb.1.1 (by have:=ha.1.2;omega) (by have:=hb.1.2;omega)
 have cf:=c39 ha.2.2.1 (by have:=ha.2.2.2;omega) hb.2.2.1 (by have:=hb.2.2.2;omega) hk.1 (by have:=hk.2;omega)
 have hfz:=frz2R a b
 try rw [key_same] at hx c1
 try rw [key_same] at hy c2
 have e:audF a b=if keyB id a=false∨keyB id b=false then (false,1) else if decide (a.svc.cmp b.svc=0)=false then (false,11) else (forkF a.signed b.signed (kid0 a.svc),0):=by
  unfold audF
  congr 1
  by_cases h:a.svc.cmp b.svc=0 <;> simp [h]
 rw [e]
 clear e hk ha hb hy
 generalize keyB id a=A at hx c1 ⊢
 generalize keyB id b=B at c2 ⊢
 generalize decide (a.svc.cmp b.svc=0)=D at cs ⊢
 generalize forkF a.signed b.signed (kid0 a.svc)=F at cf ⊢
 have hO:A=false∨(A=true∧B=false)∨(A=true∧B=true):=by cases A <;> cases B <;> simp
 rcases hO with rfl | ⟨rfl,rfl⟩ | ⟨rfl,rfl⟩
 · simp only [true_or, if_true]
   clear hx
   obtain ⟨⟨k1,nm1,s1,b1,kids1⟩,n,⟨k2,nm2,s2,b2,kids2⟩,k3,nm3,s3,b3,kids3⟩:=a
   obtain ⟨⟨k4,nm4,s4,b4,kids4⟩,n',⟨k5,nm5,s5,b5,kids5⟩,k6,nm6,s6,b6,kids6⟩:=b
   obtain ⟨k7,nm7,s7,b7,kids7⟩:=x
   obtain ⟨k8,nm8,s8,b8,kids8⟩:=y
   simp only [Rd.cells,Tm.cells,List.cons_append,List.nil_append] at c1 c2 hfz ⊢
   refine κw tOk fe14.ok rfl ?_ hfz
   repeat' first | refine κn ?_ | refine κc (c1 _) ?_ | refine κt ?_ | refine κg ?_ | refine κa ?_ | refine κf ?_ | fail
   all_goals rfl
 · simp only [or_true, if_true]
   clear hx
   obtain ⟨⟨k1,nm1,s1,b1,kids1⟩,n,⟨k2,nm2,s2,b2,kids2⟩,k3,nm3,s3,b3,kids3⟩:=a
   obtain ⟨⟨k4,nm4,s4,b4,kids4⟩,n',⟨k5,nm5,s5,b5,kids5⟩,k6,nm6,s6,b6,kids6⟩:=b
   obtain ⟨k7,nm7,s7,b7,kids7⟩:=x
   obtain ⟨k8,nm8,s8,b8,kids8⟩:=y
   simp only [Rd.cells,Tm.cells,List.cons_append,List.nil_append] at c1 c2 hfz ⊢
   refine κw tOk fe14.ok rfl ?_ hfz
   repeat' first | refine κn ?_ | refine κc (c1 _) ?_ | refine κc (c2 _) ?_ | refine κt ?_ | refine κg ?_ | refine κa ?_ | refine κf ?_ | fail
   all_goals rfl
 · obtain rfl := hx rfl
   clear hx
   simp only [Bool.true_eq_false,or_self,if_false]
   generalize kid0 a.svc=x at c1 cf
   obtain ⟨⟨k1,nm1,s1,b1,kids1⟩,n,⟨k2,nm2,s2,b2,kids2⟩,k3,nm3,s3,b3,kids3⟩:=a
   obtain ⟨⟨k4,nm4,s4,b4,kids4⟩,n',⟨k5,nm5,s5,b5,kids5⟩,k6,nm6,s6,b6,kids6⟩:=b
   obtain ⟨k7,nm7,s7,b7,kids7⟩:=x
   obtain ⟨k8,nm8,s8,b8,kids8⟩:=y
   simp only [Rd.cells,Tm.cells,List.cons_append,List.nil_append] at c1 c2 cs cf hfz ⊢
   cases D
   all_goals simp only [Bool.true_eq_false,if_false,if_true]
   all_goals
    refine κw tOk fe14.ok rfl ?_ hfz
    repeat' first | refine κn ?_ | (apply qCl;rfl;rfl;rfl;rfl;first | exact c1 _ | exact c2 _ | exact cs _ | exact cf _) | refine κt ?_ | refine κg ?_ | refine κa ?_ | refine κf ?_ | fail
   all_goals rfl
theorem c17 {a b:Rd} (ha:RdOk 20000 a) (hb:RdOk 20000 b):∀ H,CallOk E0 Tryz.prog 17 [.agg a.cells,.agg b.cells] H (.tup [.bool (audF a b).1,.int .i64 (audF a b).2]) H:=by
 obtain ⟨x,hx,c1⟩:=c43 ha
 obtain ⟨y,hy,c2⟩:=c43 hb
 have hk:=kid0_ok2 ha.1.1 ha.1.2 (by omega)
 have cs:=c15 ha.1.1 hb.1.1 (by have:=ha.1.2;omega) (by have:=hb.1.2;omega)
 have cf:=c44 ha.2.2.1 (by have:=ha.2.2.2;omega) hb.2.2.1 (by have:=hb.2.2.2;omega) hk.1 (by have:=hk.2;omega)
 have hfz:=frz2R a b
 try rw [key_same] at hx c1
 try rw [key_same] at hy c2
 have e:audF a b=if keyB id a=false∨keyB id b=false then (false,1) else if decide (a.svc.cmp b.svc=0)=false then (false,11) else (forkF a.signed b.signed (kid0 a.svc),0):=by
  unfold audF
  congr 1
  by_cases h:a.svc.cmp b.svc=0 <;> simp [h]
 rw [e]
 clear e hk ha hb hy
 generalize keyB id a=A at hx c1 ⊢
 generalize keyB id b=B at c2 ⊢
 generalize decide (a.svc.cmp b.svc=0)=D at cs ⊢
 generalize forkF a.signed b.signed (kid0 a.svc)=F at cf ⊢
 have hO:A=false∨(A=true∧B=false)∨(A=true∧B=true):=by cases A <;> cases B <;> simp
 rcases hO with rfl | ⟨rfl,rfl⟩ | ⟨rfl,rfl⟩
 · simp only [true_or, if_true]
   clear hx
   obtain ⟨⟨k1,nm1,s1,b1,kids1⟩,n,⟨k2,nm2,s2,b2,kids2⟩,k3,nm3,s3,b3,kids3⟩:=a
   obtain ⟨⟨k4,nm4,s4,b4,kids4⟩,n',⟨k5,nm5,s5,b5,kids5⟩,k6,nm6,s6,b6,kids6⟩:=b
   obtain ⟨k7,nm7,s7,b7,kids7⟩:=x
   obtain ⟨k8,nm8,s8,b8,kids8⟩:=y
   simp only [Rd.cells,Tm.cells,List.cons_append,List.nil_append] at c1 c2 hfz ⊢
   refine κw tOk fe17.ok rfl ?_ hfz
   repeat' first | refine κn ?_ | refine κk ?_ | refine κc (c1 _) ?_ | refine κc (c2 _) ?_ | refine κt ?_ | refine κg ?_ | refine κa ?_ | refine κf ?_ | fail
   all_goals rfl
 · simp only [or_true, if_true]
   clear hx
   obtain ⟨⟨k1,nm1,s1,b1,kids1⟩,n,⟨k2,nm2,s2,b2,kids2⟩,k3,nm3,s3,b3,kids3⟩:=a
   obtain ⟨⟨k4,nm4,s4,b4,kids4⟩,n',⟨k5,nm5,s5,b5,kids5⟩,k6,nm6,s6,b6,kids6⟩:=b
   obtain ⟨k7,nm7,s7,b7,kids7⟩:=x
   obtain ⟨k8,nm8,s8,b8,kids8⟩:=y
   simp only [Rd.cells,Tm.cells,List.cons_append,List.nil_append] at c1 c2 hfz ⊢
   refine κw tOk fe17.ok rfl ?_ hfz
   repeat' first | refine κn ?_ | refine κc (c1 _) ?_ | refine κc (c2 _) ?_ | refine κt ?_ | refine κg ?_ | refine κa ?_ | refine κf ?_ | fail
   all_goals rfl
 · obtain rfl := hx rfl
   clear hx
   simp only [Bool.true_eq_false,or_self,if_false]
   generalize kid0 a.svc=x at c1 cf
   obtain ⟨⟨k1,nm1,s1,b1,kids1⟩,n,⟨k2,nm2,s2,b2,kids2⟩,k3,nm3,s3,b3,kids3⟩:=a
   obtain ⟨⟨k4,nm4,s4,b4,kids4⟩,n',⟨k5,nm5,s5,b5,kids5⟩,k6,nm6,s6,b6,kids6⟩:=b
   obtain ⟨k7,nm7,s7,b7,kids7⟩:=x
   obtain ⟨k8,nm8,s8,b8,kids8⟩:=y
   simp only [Rd.cells,Tm.cells,List.cons_append,List.nil_append] at c1 c2 cs cf hfz ⊢
   cases D
   all_goals simp only [Bool.true_eq_false,if_false,if_true]
   all_goals
    refine κw tOk fe17.ok rfl ?_ hfz
    repeat' first | refine κn ?_ | (apply qCl;rfl;rfl;rfl;rfl;first | exact c1 _ | exact c2 _ | exact cs _ | exact cf _) | refine κt ?_ | refine κg ?_ | refine κa ?_ | refine κf ?_ | fail
   all_goals rfl
end Go.Vm.Seat
