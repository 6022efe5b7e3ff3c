/-
  KeyserviceAnswer: the law's function returns true at any changes, name and size.
-/
import Derived.Test.YtpgfeijkfmgnjaaGreatDoorLg
set_option maxHeartbeats 0
set_option maxRecDepth 100000
namespace Go.Vm.Seat
variable {s:Sv}
open Go.Proofs
theorem Zho (h:svV s=0) (name:Bs):((Zt name s.log.reverse).2.2=false→ZY name s.keys=none)∧((Zt name s.log.reverse).2.2=true→∃ e,ZY name s.keys=some e∧e.idx=((Zt name s.log.reverse).2.1:Int)):=by
 have h1:=ZbK (name:=name) (ZfF.1 (ZmL h))
 have h2:=(Qv s.log s.log.length (Nat.le_refl _)).1 name
 rw [h2] at h1
 constructor
 · intro hk
   rw [hk,if_neg (by simp)] at h1
   cases e:ZY name s.keys with
   | none=>rfl
   | some u=>rw [e] at h1;cases h1
 · intro hk
   have hlt:=ZeN hk
   rw [List.length_reverse] at hlt
   rw [if_pos ⟨hk,hlt⟩] at h1
   cases e:ZY name s.keys with
   | none=>rw [e] at h1;cases h1
   | some u =>
     rw [e] at h1
     simp only [Option.map_some,Option.some.injEq,enK,Prod.mk.injEq] at h1
     exact ⟨u,rfl,h1.2.2.symm⟩
def anY (s:Sv) (name:Bs) (z:Nat):An:=
 ⟨name,((s.log[(Zt name s.log.reverse).2.1]?).getD .zero).cl,((Zt name s.log.reverse).2.1:Int),(s.log.length:Int),(Zy s.log).1.cl,(Z5 Tm.cl (Zy s.log).1.cl s.log.length s.key).1,true,clL (WX 32 s.log (Zt name s.log.reverse).2.1),true,if z=0 then [] else clL (Wa 32 s.log z true)⟩
def Znt (s:Sv) (name:Bs) (z:Int):An×Int:=if (Zt name s.log.reverse).2.2=false then (An.zero,4) else if z<0∨(s.log.length:Int)<z then (An.zero,7) else (anY s name z.toNat,0)
theorem Zja (m:Nat) (H:Heap) (e:Int):frz3 m H (.tup [.agg An.zero.cells,.int .i64 e])=some (.tup [.agg An.zero.cells,.int .i64 e]):=Zgm m H An.zero e
theorem Zkk (name:Bs) (e:Tm) (i n:Int):Wr E0 42 [(0,.str name),(1,.agg e.cells),(2,.int .i64 i),(3,.int .i64 n)]=some (.agg (An.mk name e i n .zero .zero true [] true []).cells):=by
 obtain ⟨k1,n1,s1,b1,l1⟩:=e
 simp only [An.cells,Tm.cells,Zk,Za,Zq]
 rfl
theorem Zp5 (s:Sv):(Za s.log).length=s.log.length:=Zb _
theorem c10 (h:Mad 10 s) (hv:svV s=0) {name:Bs} (_hn:name.length≤100) (z:Int):∀ H,CallOk E0 Tryz.prog 10 [.agg s.cells,.str name,.int .i64 z] H (.tup [.agg (Znt s name z).1.cells,.int .i64 (Znt s name z).2]) H:=by
 have cv:=c19 h.ok
 rw [Zi8,hv] at cv
 have cf:=c25 (L:=s.keys) (by have:=h.ok.el;omega) s.kb name
 obtain ⟨k1,k2⟩:=Zho hv name
 have hfz:=Zno s name z
 have hln:=Zp5 s
 unfold Znt
 cases hok:(Zt name s.log.reverse).2.2 with
 | false =>
   rw [k1 hok] at cf
   rw [if_pos rfl]
   have hf:=fun m H=>Zja m H 4
   clear k1 k2 hok h hv
   obtain ⟨sn,⟨k,nm,zz,b,kz⟩,lb,log,kb,keys⟩:=s
   simp only [Option.getD_none,Option.isSome_none,VA] at cf
   simp only [UL] at hf ⊢
   simp only [Sv.cells,Tm.cells,List.cons_append,List.nil_append] at cv cf hfz ⊢
   refine Zm (own:=(fun d=>[30013].any (Nat.beq d))) tOk fe10.ok hfz (hf 0 hNil) ?_
   refine Wp.seq ?_
   repeat' first|refine Jc (cv _) ?_|refine Jc (cf _) ?_|refine Jt ?_|refine Jo ?_|fail
   all_goals exact hf _ _
 | true =>
   obtain ⟨e,he,hei⟩:=k2 hok
   rw [he] at cf
   simp only [Option.getD_some,Option.isSome_some] at cf
   rw [if_neg (by simp)]
   by_cases hneg:z<0
   · have q1 : ZP E0 .lss 3 (.int .i64 z) (.int .i64 0) = some (.bool true) := X3 hneg
     rw [if_pos (.inl hneg)]
     have hf:=fun m H=>Zja m H 7
     clear k1 k2 hok h hv he hei hln
     obtain ⟨sn,⟨k,nm,zz,b,kz⟩,lb,log,kb,keys⟩:=s
     obtain ⟨n5,⟨k5,nm5,z5,b5,kz5⟩,i5⟩:=e
     simp only [UL] at hf ⊢
     simp only [Sv.cells,En.cells,Tm.cells,List.cons_append,List.nil_append] at cv cf hfz ⊢
     refine Zm (own:=(fun d=>[30013].any (Nat.beq d))) tOk fe10.ok hfz (hf 0 hNil) ?_
     refine Wp.seq ?_
     repeat' first|refine Jk ?_|refine Jc (cv _) ?_|refine Jc (cf _) ?_|refine Ji ?_|refine Jl ?_|refine Jt ?_|refine Jo ?_|fail
     all_goals exact hf _ _
   · have q1 : ZP E0 .lss 3 (.int .i64 z) (.int .i64 0) = some (.bool false) := Xo hneg
     by_cases hbig:(s.log.length:Int)<z
     · have g2 : ZP E0 .gtr 3 (.int .i64 z) (.int .i64 ((Za s.log).length : Int)) = some (.bool true) := Ze3 (by rw [hln]; exact hbig)
       rw [if_pos (.inr hbig)]
       have hf:=fun m H=>Zja m H 7
       clear k1 k2 hok h hv he hei hln hbig
       obtain ⟨sn,⟨k,nm,zz,b,kz⟩,lb,log,kb,keys⟩:=s
       obtain ⟨n5,⟨k5,nm5,z5,b5,kz5⟩,i5⟩:=e
       simp only [UL] at hf ⊢
       simp only [Sv.cells,En.cells,Tm.cells,List.cons_append,List.nil_append] at cv cf hfz g2 ⊢
       refine Zm (own:=(fun d=>[30013].any (Nat.beq d))) tOk fe10.ok hfz (hf 0 hNil) ?_
       refine Wp.seq ?_
       repeat' first|refine Jc (cv _) ?_|refine Jc (cf _) ?_|refine Ji ?_|refine Jl ?_|refine Jt ?_|refine Jo ?_|fail
       all_goals exact hf _ _
     · rw [if_neg (by omega)]
       obtain ⟨n,rfl⟩:∃ n:Nat,z=(n:Int):=⟨z.toNat,by omega⟩
       rw [Int.toNat_natCast]
       have g2:ZP E0 .gtr 3 (.int .i64 (n:Int)) (.int .i64 ((Za s.log).length:Int))=some (.bool false):=ZdX (by rw [hln];exact hbig)
       have hlt:=ZeN hok
       rw [List.length_reverse] at hlt
       obtain ⟨t,ht⟩:∃ t,s.log[(Zt name s.log.reverse).2.1]? = some t:=⟨s.log[(Zt name s.log.reverse).2.1],by simp⟩
       have htm:=List.mem_of_getElem? ht
       have cp:=c20 (h.ok.l t htm) (by have:=h.ok.ls t htm;omega)
       have hR:=ZbF (Zci hv)
       have hlg:∀ t,t∈s.log→t.Ok∧t.size≤2000:=fun t ht=>⟨h.ok.l t ht,by have:=h.ok.ls t ht;omega⟩
       have ch:=c26 hlg s.lb
       have hrk:=Qz (l:=s.log) (S:=2000) hlg
       have cs:=c27 (h:=(Zy s.log).1.cl) (Wi hrk.1) (by rw [YN];have:=hrk.2;omega) h.ok.k (by have:=h.ok.ks;omega) (s.log.length:Int)
       have ci:=c28 hlg hR.1 hlt hR.2 s.lb
       have hj:(Za s.log)[(Zt name s.log.reverse).2.1]? = some t.cells:=by
        obtain ⟨k,nm,s,b,kz⟩:=t
        exact Zn ht
       have hf:=fun m H=>Zgm m H (anY s name n) 0
       have ce:n≠0→∀ H,CallOk E0 Tryz.prog 29 [slV s.lb 4 (Za s.log),.int .i64 (n:Int)] H (.tup [slV true 4 (Za (clL (Wa 32 s.log n true))),.int .i64 0]) H:=fun hn0=>c29 hlg hR.1 (by omega) (by omega) hR.2 s.lb
       have hz:¬ (Zy s.log).2≠0:=not_not_intro (Zci hv)
       unfold anY at hf ⊢
       rw [ht] at hf ⊢
       simp only [Option.getD_some] at hf ⊢
       rw [← hln] at hf cs ⊢
       obtain ⟨n5,t5,i5⟩:=e
       have hei:i5=((Zt name s.log.reverse).2.1:Int):=hei
       subst hei
       have q3:ZP E0 .gtr 3 (.int .i64 (n:Int)) (.int .i64 0)=some (.bool (decide (0<(n:Int)))):=rfl
       clear hR hrk hv hlg k1 k2 htm
       generalize hRH:(Zy s.log).1.cl=RH at ch cs hf ⊢
       generalize hSG:Z5 Tm.cl RH ((Za s.log).length:Int) s.key=SG at cs hf ⊢
       have hR2:(Zy s.log).2=0:=Classical.not_not.1 hz
       rw [hR2] at ch
       generalize clL (WX 32 s.log (Zt name s.log.reverse).2.1)=P at ci hf ⊢
       generalize clL (Wa 32 s.log n true)=Q at ce hf ⊢
       generalize (Zt name s.log.reverse).2.1=ix at cf ci hj hf ⊢
       generalize t.cl=u at cp hf ⊢
       clear hSG hRH hR2 hz h hok ht hlt he hln hneg hbig _hn
       obtain ⟨SG1,SG2⟩:=SG
       obtain ⟨kA,nmA,sA,bA,kzA⟩:=RH
       obtain ⟨kB,nmB,sB,bB,kzB⟩:=SG1
       obtain ⟨kC,nmC,sC,bC,kzC⟩:=u
       obtain ⟨kD,nmD,sD,bD,kzD⟩:=t
       obtain ⟨sn,⟨k,nm,zz,b,kz⟩,lb,log,kb,keys⟩:=s
       obtain ⟨k5,nm5,z5,b5,kz5⟩:=t5
       have hbd:=Zkk name (.mk kC nmC sC bC kzC) ix (Za log).length
       simp only [An.cells,Sv.cells,En.cells,Tm.cells,Za,Zq,List.cons_append,List.nil_append] at cv cf cp ch cs ci ce hj hbd hf hfz q1 g2 ⊢
       by_cases hn0:n=0
       · subst hn0
         rw [if_pos rfl] at hf ⊢
         simp only [Za,Zq] at hf ⊢
         rcases Un true 4 (Za P) with hP|hP
         all_goals
          rw [hP] at ci ⊢
          simp only [hP] at hf
          refine Zm (own:=(fun d=>[30013].any (Nat.beq d))) tOk fe10.ok hfz (hf 0 hNil) ?_
          refine Wp.seq ?_
          repeat' first|(apply qCl;rfl;rfl;rfl;rfl;first|exact cv _|exact cf _|exact ch _|exact cs _|exact ci _)|refine Ji ?_|refine Jl ?_|refine Jt ?_|refine Jo ?_|refine Jd (cp _) ?_|(apply dAl;rfl;rfl;rfl;rfl;exact IsV.ptrM;exact IsH.mkN)|(apply dBd;rfl;rfl;rfl;assumption;exact IsV.aggN;rfl)|refine JI ?_|refine Jh ?_|(apply dWB tOk follows;rfl;kernel_rfl;rfl;exact IsH.mkN)|fail
         all_goals exact hf _ _
       · have ce := ce hn0
         rw [if_neg hn0] at hf ⊢
         rw [decide_eq_true (show (0:Int)<(n:Int) by omega)] at q3
         rcases Un true 4 (Za Q) with hQ|hQ
         all_goals
          rw [hQ] at ce ⊢
          simp only [hQ] at hf
          rcases Un true 4 (Za P) with hP|hP
          all_goals
           rw [hP] at ci ⊢
           simp only [hP] at hf
           refine Zm (own:=(fun d=>[30013].any (Nat.beq d))) tOk fe10.ok hfz (hf 0 hNil) ?_
           refine Wp.seq ?_
           repeat' first|(apply qCl;rfl;rfl;rfl;rfl;first|exact cv _|exact cf _|exact ch _|exact cs _|exact ci _|exact ce _)|refine Ji ?_|refine Jl ?_|refine Jt ?_|refine Jo ?_|refine Jd (cp _) ?_|(apply dAl;rfl;rfl;rfl;rfl;exact IsV.ptrM;exact IsH.mkN)|(apply dBd;rfl;rfl;rfl;assumption;exact IsV.aggN;rfl)|refine JI ?_|refine Jh ?_|(apply dWB tOk follows;rfl;kernel_rfl;rfl;exact IsH.mkN)|fail
          all_goals exact hf _ _
structure SvEq (a b:Sv):Prop where
 name:a.name=b.name
 key:a.key.cl=b.key.cl
 log:a.log.map Tm.cl=b.log.map Tm.cl
 keys:a.keys.map enK=b.keys.map enK
theorem SvEq.rfl' (a:Sv):SvEq a a:=⟨rfl,rfl,rfl,rfl⟩
theorem ZhB {S:Nat} (h1:1≤S):ZiF S .zero∧Tm.zero.Ok∧Tm.zero.size≤S:=by
 have hz:Tm.zero.Ok∧Tm.zero.size≤S:=⟨Tm.ok_zero,by simpa [Tm.zero,Tm.size,Zx] using h1⟩
 exact ⟨⟨hz,hz,hz⟩,hz⟩
theorem ZmT {c:Rd} {a:An} (hc:ZiF 2000 c) (ha:AnSm a 2000):ZiF 2000 (ZjO c a).1∧(ZjO c a).2.1.Ok∧(ZjO c a).2.1.size≤2000:=by
 have hz:=ZhB (S:=2000) (by omega)
 obtain ⟨r1,r2, -⟩:=W0 ha.ok.e ha.e (by omega)
 unfold ZjO
 split; · exact hz
 split; · exact hz
 split; · exact hz
 split; · exact hz
 split; · exact hz
 have k:∀ {t:Tm},t.Ok→t.size≤2000→t.cl.Ok∧t.cl.size≤2000:=fun h1 h2=>⟨Wi h1,by rw [YN];exact h2⟩
 exact ⟨⟨k hc.1.1 hc.1.2,k ha.ok.h ha.h,k ha.ok.s ha.s⟩,k r1 r2⟩
structure AnEq (a b:An):Prop where
 name:a.name=b.name
 entry:a.entry.cl=b.entry.cl
 idx:a.idx=b.idx
 size:a.size=b.size
 head:a.head.cl=b.head.cl
 signed:a.signed.cl=b.signed.cl
 incl:a.incl.map Tm.cl=b.incl.map Tm.cl
 ext:a.ext.map Tm.cl=b.ext.map Tm.cl
structure AnS (a:An):Prop where
 t:∀ t,t∈ [a.entry,a.head,a.signed]→t.Ok∧t.size≤1000000
 i:∀ t,t∈a.incl→t.Ok∧t.size≤1000000
 x:∀ t,t∈a.ext→t.Ok∧t.size≤1000000
 il:a.incl.length≤1000000
 xl:a.ext.length≤1000000
theorem AnEq.rfl' (a:An):AnEq a a:=⟨rfl,rfl,rfl,rfl,rfl,rfl,rfl,rfl⟩
theorem ZbS (h:Tm) (n:Int) (key:Tm):(Z5 Tm.cl h.cl n key).1.cl=(Z5 id h n key).1.cl:=by
 have e1:(Xn h.cl n key).cl=(Xn h n key).cl:=by simp only [Xn,Ur,Uz,Tm.cl,clL,XR]
 have v0:=U1 h
 have e2:=(Zcy h.cl n key).trans e1
 have v:=YJ e2
 unfold Z5
 simp only [id,v,v0]
 split; · rfl
 split; · rfl
 split; · rfl
 split; · rfl
 exact e2
theorem Zmg (l:List Tm):(clL l).map Tm.cl=l.map Tm.cl:=by
 rw [XE,List.map_map]
 exact List.map_congr_left fun t _=>XR t
theorem Zfz (hv:svV s=0):Wf s.log s.key=((Zy s.log).1,(Z5 id (Zy s.log).1 s.log.length s.key).1,decide ((Z5 id (Zy s.log).1 s.log.length s.key).2=0)):=by
 unfold Wf
 rw [if_neg (not_not_intro (Zci hv))]
