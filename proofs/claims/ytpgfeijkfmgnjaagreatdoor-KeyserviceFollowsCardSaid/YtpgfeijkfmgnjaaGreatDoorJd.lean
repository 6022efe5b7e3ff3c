/-
  The keys of a log, by the program's text: the function.
-/
import Derived.Test.YtpgfeijkfmgnjaaGreatDoorJb
set_option maxHeartbeats 0
set_option maxRecDepth 100000
namespace Go.Vm.Seat
variable {L M:List En} {e:En} {name:Bs} {S:Nat} {key:Tm}
open Go.Proofs
theorem Zkj {m:Nat} {H:Heap} {id:Nat} {D:List (List PV)} (hid:m≤id) (hb:nth H.bx id=some (.cells 6 (enC M++D))):frz3 m H (.own id 6 0 M.length)=some (.sl .none 6 (enC M)):=by
 show frzC m H (.own id 6 0 M.length)=_
 simp only [frzC,if_neg (Nat.not_lt.2 hid),hb]
 rw [if_pos ⟨trivial,by rw [List.length_append,Yj];omega⟩,List.drop_zero,show (enC M++D).take M.length=enC M by rw [← Yj M,List.take_left],Zas]
theorem Zox (hL:L≠ []) (hl:L.length≤1000) (b:Bool) (name:Bs):∀ H,CallOk E0 Tryz.prog 84 [slV b 6 (enC L),.str name] H (.sl .none 6 (enC (L.filter (Yq name)))) H:=fun H=>by
 obtain ⟨r,H',k,A,D,rfl,hA,rfl⟩:=ZrV (K:= .dead) (fun _=>rfl) hL hl b name
 have k:=CallOk.unkill k
 exact ZpS (Yc k (by simp only [ZJ,Yy];rfl) (Zkj (Nat.zero_le _) rfl) H)
theorem VH (h:UH L) (p:En→Bool):UH (L.filter p):=by
 have hp:L.Pairwise (fun a b=>Xx a.name b.name<0):=by
  rw [List.pairwise_iff_getElem]
  intro i j hi hj hij
  exact h i j _ _ hij (List.getElem?_eq_getElem hi) (List.getElem?_eq_getElem hj)
 have h2:=hp.filter p
 rw [List.pairwise_iff_getElem] at h2
 intro i j a b hij ha hb
 obtain ⟨hi,rfl⟩:=List.getElem?_eq_some_iff.1 ha
 obtain ⟨hj,rfl⟩:=List.getElem?_eq_some_iff.1 hb
 exact h2 i j hi hj hij
theorem ZaV:UH L↔L.Pairwise (fun a b=>Xx a.name b.name<0):=by
 rw [List.pairwise_iff_getElem]
 constructor
 · intro h i j hi hj hij
   exact h i j _ _ hij (List.getElem?_eq_getElem hi) (List.getElem?_eq_getElem hj)
 · intro h i j a b hij ha hb
   obtain ⟨hi,rfl⟩:=List.getElem?_eq_some_iff.1 ha
   obtain ⟨hj,rfl⟩:=List.getElem?_eq_some_iff.1 hb
   exact h i j hi hj hij
theorem Zc6 {name:Bs}:∀ {M:List En},UH M→(∀ e,e∈M→e.name≠name)→(∀ e,e∈M.take (WE name M)→Xx e.name name<0)∧(∀ e,e∈M.drop (WE name M)→Xx name e.name<0)
 | [],_,_=>⟨fun e h=>by simp at h,fun e h=>by simp at h⟩
 | a :: r, hO, hn => by
   have hp:=ZaV.1 hO
   rw [List.pairwise_cons] at hp
   have ih:=Zc6 (M:=r) (ZaV.2 hp.2) (fun e he=>hn e (by simp [he]))
   by_cases ha:Xx a.name name<0
   · have e1 : WE name (a :: r) = WE name r + 1 := by
       simp only [WE,List.filter_cons,Qd.1 ha,if_true,List.length_cons]
     rw [e1,List.take_succ_cons,List.drop_succ_cons]
     refine ⟨fun e he=>?_,ih.2⟩
     rcases List.mem_cons.1 he with rfl|he
     · exact ha
     · exact ih.1 e he
   · have hb : Op.bytesLess a.name name = false := by
       cases h:Op.bytesLess a.name name with
       | true=>exact absurd (Qd.2 h) ha
       | false=>rfl
     have hgt:Xx name a.name<0:=by
      have hne:=hn a (by simp)
      have h1:Xx a.name name=1:=by simp [Xx,hb,hne]
      have:=cmpB_on.anti a.name name trivial trivial
      omega
     have e0:WE name (a::r)=0:=by
      simp only [WE,List.filter_cons,hb,Bool.false_eq_true,if_false,List.length_eq_zero_iff,List.filter_eq_nil_iff]
      intro e he
      have h1:=hp.1 e he
      have h2:Xx name e.name<0:=WL hgt (by omega)
      intro h3
      have h4:=Qd.2 h3
      have:=WL h2 (c:=name) (by omega)
      have:=cmpB_on.anti name name trivial trivial
      omega
     rw [e0,List.take_zero,List.drop_zero]
     refine ⟨fun e h=>by simp at h,fun e he=>?_⟩
     rcases List.mem_cons.1 he with rfl|he
     · exact hgt
     · exact WL hgt (by have:=hp.1 e he;omega)
theorem Zid (hO:UH M) (hn:∀ u,u∈M→u.name≠e.name):UH (Za6 M (WE e.name M) e):=by
 obtain ⟨h1,h2⟩:=Zc6 hO hn
 have hp:=ZaV.1 hO
 rw [← List.take_append_drop (WE e.name M) M] at hp
 rw [List.pairwise_append] at hp
 obtain ⟨p1,p2,p3⟩:=hp
 rw [ZaV,Za6,List.append_assoc,List.pairwise_append]
 refine ⟨p1,?_,fun a ha b hb=>?_⟩
 · rw [List.singleton_append, List.pairwise_cons]
   exact ⟨h2,p2⟩
 · rw [List.singleton_append] at hb
   rcases List.mem_cons.1 hb with rfl|hb
   · exact h1 a ha
   · exact p3 a ha b hb
theorem Zjd:∀ u,u∈L.filter (Yq name)→u.name≠name:=fun u hu=>by
 have:=(List.mem_filter.1 hu).2
 simpa [Yq] using this
theorem Zii (hO:UH L) (name:Bs) (key:Tm) (i:Int):UH (Zad L name key i):=
 Zid (e:=⟨name,key.cl,i⟩) (VH hO _) Zjd
theorem ZmQ (L:List En) (name:Bs) (key:Tm) (i:Int):(Zad L name key i).length≤L.length+1:=by
 unfold Zad
 rw [Zgc (Zfl _ _)]
 have:=List.length_filter_le (Yq name) L
 omega
theorem ZjA (h:Us S L) (hn:name.length≤1000) (hk:key.Ok) (hks:key.size≤S) (i:Int):Us S (Zad L name key i):=by
 intro e he
 simp only [Zad,Za6,List.mem_append,List.mem_singleton] at he
 rcases he with (he|rfl)|he
 · exact h e (List.mem_filter.1 (List.mem_of_mem_take he)).1
 · exact ⟨⟨Wi hk,by rw [YN];exact hks⟩,hn⟩
 · exact h e (List.mem_filter.1 (List.mem_of_mem_drop he)).1
theorem Zdp (h:Us S L) (p:En→Bool):Us S (L.filter p):=fun e he=>h e (List.mem_filter.1 he).1
def eqK (L:List En) (x:Cred):Bool:=(ZY x.sub L).isSome&&decide (((ZY x.sub L).getD enZero).key.cmp x.key=0)
def XZ (key:Tm) (i:Nat) (t:Tm) (L:List En):Option (List En):=
 if (Zf t).2≠0∨((Zf t).1.till≠9999∧(Zf t).1.till≠0) then none else
 if ((Zv (Zf t).1.sub (Zf t).1.key i (Zf t).1.till).issue key).2≠0∨t.cmp ((Zv (Zf t).1.sub (Zf t).1.key i (Zf t).1.till).issue key).1≠0 then none else
 if eqK L (Zf t).1≠decide ((Zf t).1.till=0) then none else
 if (Zf t).1.till=0 then some (L.filter (Yq (Zf t).1.sub)) else some (Zad L (Zf t).1.sub (Zf t).1.key i)
def WZ (key:Tm):List Tm→Nat→List En→Option (List En)
 | [],_,L=>some L
 | t :: r, i, L => match XZ key i t L with
   | some L'=>WZ key r (i+1) L'
   | none=>none
theorem ZfR (h:ZY name L=some e):e∈L:=List.mem_of_find?_eq_some h
theorem Zkh (h:Us 900 L) (name:Bs):((ZY name L).getD enZero).key.Ok∧((ZY name L).getD enZero).key.size≤900:=by
 cases e:ZY name L with
 |none=>exact ⟨Tm.ok_zero,by decide⟩
 |some u=>exact (h u (ZfR e)).1
theorem ZfW {t:Tm} {i:Nat} {L':List En} (ht:t.Ok) (hs:t.size≤900) (h:Us 900 L) (hO:UH L) (e:XZ key i t L=some L'):Us 900 L'∧UH L'∧L'.length≤L.length+1:=by
 obtain ⟨r1,r2,r3⟩:=W0 ht hs (by omega)
 unfold XZ at e
 split at e; · cases e
 split at e; · cases e
 split at e; · cases e
 split at e
 · cases e
   exact ⟨Zdp h _,VH hO _,by have:=List.length_filter_le (Yq (Zf t).1.sub) L;omega⟩
 · cases e
   exact ⟨ZjA h r3 r1 r2 _,Zii hO _ _ _,ZmQ _ _ _ _⟩
theorem Znh (b:Bool) (n:Nat) (L:List (List PV)):slV b n L= .nils∨slV b n L= .sl .none n L:=by
 cases L with
 | nil =>
   cases b
   · exact .inr (Z1 _ _)
   · exact .inl (Zq _)
 |cons a r=>exact .inr (Zw _ _ _ _)
def kV (e:Bool):Option (List En)→PV
 |none=> .tup [.nils,.bool false]
 |some L=> .tup [slV e 6 (enC L),.bool true]
theorem Zmc (m:Nat) (H:Heap) (e:Bool) (o:Option (List En)):frz3 m H (kV e o)=some (kV e o):=by
 cases o with
 |none=>rfl
 | some L =>
   show (match YR m H [slV e 6 (enC L),.bool true] with|some vs'=>some (PV.tup vs')|none=>none)=_
   rcases Znh e 6 (enC L) with h|h<;>rw [kV,h]<;>rfl
theorem ZrE (a b:Int):ZP E0 .neq 3 (.int .i64 a) (.int .i64 b)=some (.bool (decide (a≠b))):=by
 show some (PV.bool (!(a==b)))=_
 by_cases h:a=b<;>simp [h]
theorem Zr9 (a b:Int):ZP E0 .eql 3 (.int .i64 a) (.int .i64 b)=some (.bool (decide (a=b))):=by
 show some (PV.bool (a==b))=_
 by_cases h:a=b<;>simp [h]
theorem ZqS (key:Tm) (b:Bool) (L:List (List PV)):ZJ [.agg key.cells,slV b 4 L]=some [.agg key.cells,slV b 4 L]:=by
 obtain ⟨k,nm,s,tb,kz⟩:=key
 simp only [Tm.cells,ZJ,Yy]
 simp only [frzG,XY,ZD]
 rfl
theorem c43 (hk:key.Ok) (hks:key.size≤900) {log:List Tm} (hl:∀ t,t∈log→t.Ok∧t.size≤900) (hll:log.length≤800) (b:Bool):∀ H,CallOk E0 Tryz.prog 43 [.agg key.cells,slV b 4 (Za log)] H (kV log.isEmpty (WZ key log 0 [])) H:=by
 obtain ⟨RES,hRES⟩:∃ RES,RES=WZ key log 0 []:=⟨_,rfl⟩
 rw [← hRES]
 have hfr:=fun m H=>Zmc m H log.isEmpty RES
 have hfz:=ZqS key b (Za log)
 have hln:=Zb log
 obtain ⟨kk,knm,ks,kb,kkids,hke⟩:∃ kk knm ks kb kkids,key= .mk kk knm ks kb kkids:=by obtain ⟨k,nm,s,tb,kz⟩:=key;exact ⟨_,_,_,_,_,rfl⟩
 have hkc:key.cells= [.int .i64 kk,.str knm,.int .i64 ks,slV kb 4 (Za kkids)]:=by rw [hke];rfl
 rw [hkc] at hfz ⊢
 obtain ⟨TL,hTL⟩:∃ TL,TL=Za log:=⟨_,rfl⟩
 rw [← hTL] at hfz hln ⊢
 refine Jw tOk fe43.ok (hfr 0 hNil) ?_ hfz
 repeat' first|refine Jl ?_|refine Jt ?_|refine Jo ?_|fail
 refine Wp.while (fun m tm H => ∃ (i : Nat) (L : List En) (V : PV) (base : TM), i + m = log.length ∧ RES = WZ key (log.drop i) i L ∧ Us 900 L ∧ UH L ∧ L.length ≤ i ∧ V = slV (decide (i = 0)) 6 (enC L) ∧
   tm=ovr base [(2,.ptr 0 4 0 0),(6,V),(15,slV b 4 TL),(16,.int .i64 (log.length:Int)),(17,.int .i64 (i:Int))]∧H=⟨[.cells 4 [[.int .i64 kk,.str knm,.int .i64 ks,slV kb 4 (Za kkids)]]],0,[],0⟩)
  (fun m tm H hI=>Wp.drop ?_) log.length _ _ ⟨0,[],.nils,_,by omega,hRES,(fun e he=>absurd he (by simp)),(fun i j a b _ h=>absurd h (by simp)),by simp,by rw [show enC []= [] from rfl];exact (Zq 6).symm,Zi ⟨rfl,rfl,rfl,Zj (by rw [hln]),rfl,trivial⟩,rfl⟩
 obtain ⟨i,L,V,base,hi,hK,hE,hO,hLl,hV,rfl,rfl⟩:=hI
 clear hRES
 by_cases hlt:i<log.length
 · have hlx : ZP E0 .lss 3 (.int .i64 (i : Int)) (.int .i64 (log.length : Int)) = some (.bool true) := X3 (by omega)
   obtain ⟨t,ht⟩:∃ t,log[i]? = some t:=⟨log[i],by simp⟩
   obtain ⟨t1,t2⟩:=hl t (List.mem_of_getElem? ht)
   have hj:TL[i]? = some t.cells:=by
    rw [hTL]
    obtain ⟨k,nm,s,tb,kz⟩:=t
    exact Zn ht
   rw [Z0 ht] at hK
   simp only [WZ] at hK
   obtain ⟨r1,r2,r3⟩:=W0 t1 t2 (by omega)
   have cr:=c24 t1 (by omega)
   have ci:=c31 r3 hk (by omega) r1 (by omega) (i:Int) (Zf t).1.till
   rw [hkc] at ci
   have hio:=Xe (x:=Zv (Zf t).1.sub (Zf t).1.key i (Zf t).1.till) (key:=key) r1 hk
   have cq:=c32 t1 hio.1 (by omega) (by have:=hio.2;simp only [Zv] at this ⊢;omega)
   have cf:=c25 (L:=L) (by omega) (decide (i=0)) (Zf t).1.sub
   rw [← hV] at cf
   have hfk:=Zkh hE (Zf t).1.sub
   have cs:=c32 hfk.1 r1 (by have:=hfk.2;omega) (by omega)
   have cu:∀ _:(ZY (Zf t).1.sub L).isSome=true,∀ H,CallOk E0 Tryz.prog 84 [V,.str (Zf t).1.sub] H (.sl .none 6 (enC (L.filter (Yq (Zf t).1.sub)))) H:=fun h=>by
    have hne:L≠ []:=fun e=>by rw [e] at h;simp [ZY] at h
    have:=Zox hne (by omega) (decide (i=0)) (Zf t).1.sub
    rw [← hV] at this
    exact this
   have ct:=c85 (L:=L) (by omega) (name:=(Zf t).1.sub) (VH hO _) r1 (by omega) (i:Int) (decide (i=0))
   rw [← hV] at ct
   have be:=YF (Zf t).2
   have bi:=YF ((Zv (Zf t).1.sub (Zf t).1.key i (Zf t).1.till).issue key).2
   have b1:=ZrE (Zf t).1.till 9999
   have b2:=ZrE (Zf t).1.till 0
   have b3:=Zr9 (Zf t).1.till 0
   have hok:=fun L' (e:XZ key i t L=some L')=>ZfW t1 t2 hE hO e
   have hst:XZ key i t L=if (Zf t).2≠0∨((Zf t).1.till≠9999∧(Zf t).1.till≠0) then none else
    if ((Zv (Zf t).1.sub (Zf t).1.key i (Zf t).1.till).issue key).2≠0∨t.cmp ((Zv (Zf t).1.sub (Zf t).1.key i (Zf t).1.till).issue key).1≠0 then none else
    if ((ZY (Zf t).1.sub L).isSome&&decide (((ZY (Zf t).1.sub L).getD enZero).key.cmp (Zf t).1.key=0))≠decide ((Zf t).1.till=0) then none else
    if (Zf t).1.till=0 then some (L.filter (Yq (Zf t).1.sub)) else some (Zad L (Zf t).1.sub (Zf t).1.key i):=rfl
   clear hio hfk r1 r2 r3 t1 t2 hE hO hV hTL ht hl hk hks hke
   generalize L.filter (Yq (Zf t).1.sub)=LU at cu hst
   generalize Zad L (Zf t).1.sub (Zf t).1.key i=LS at ct hst
   generalize (ZY (Zf t).1.sub L).isSome=F at cf cu hst
   generalize (ZY (Zf t).1.sub L).getD enZero=O at cf cs hst
   generalize (Zv (Zf t).1.sub (Zf t).1.key i (Zf t).1.till).issue key=I at ci cq bi hst
   generalize Zf t=R at cr ci cf cs cu ct be b1 b2 b3 hst
   obtain ⟨R,re⟩:=R
   obtain ⟨Y,ye⟩:=I
   simp only [] at cr ci cq cf cs cu ct be bi b1 b2 b3 hst
   obtain ⟨S,hS⟩:∃ S,S=decide (t.cmp Y=0):=⟨_,rfl⟩
   rw [← hS] at cq
   obtain ⟨Q,hQ⟩:∃ Q,Q=decide (O.key.cmp R.key=0):=⟨_,rfl⟩
   rw [← hQ] at cs hst
   obtain ⟨tk,tnm,ts,tb,tkids⟩:=t
   obtain ⟨sub,⟨k8,nm8,s8,b8,kz8⟩,iss,pn,per,en',exc,ser,fr,till⟩:=R
   obtain ⟨k9,nm9,s9,b9,kz9⟩:=Y
   obtain ⟨onm,⟨k7,nm7,s7,b7,kz7⟩,oi⟩:=O
   simp only [] at hst hS ci cf cu ct b1 b2 b3
   by_cases hre:re=0
   · rw [decide_eq_false (not_not_intro hre)] at be
     by_cases h0:till=0
     · subst h0
       rw [decide_eq_true (by decide)] at b1
       rw [decide_eq_false (by simp)] at b2
       rw [decide_eq_true rfl] at b3
       by_cases hye:ye=0
       · rw [decide_eq_false (not_not_intro hye)] at bi
         cases S with
         | false =>
           have hc:=of_decide_eq_false hS.symm
           have hN:XZ key i (.mk tk tnm ts tb tkids) L=none:=by
            rw [hst]
            simp [hre,hye,hc]
           rw [hN] at hK
           simp only [] at hK
           rw [hK] at hfr ⊢
           simp only [kV] at hfr ⊢
           clear hok hst hN
           repeat' first|(apply qCl;rfl;rfl;rfl;rfl;first|exact cr _|exact ci _|exact cq _)|refine Ji ?_|refine Jx ?_|refine Jt ?_|refine Jo ?_|fail
           all_goals exact hfr _ _
         | true =>
           have hc:=of_decide_eq_true hS.symm
           cases F with
           | false =>
             have hN:XZ key i (.mk tk tnm ts tb tkids) L=none:=by
              rw [hst]
              simp [hre,hye,hc]
             rw [hN] at hK
             simp only [] at hK
             rw [hK] at hfr ⊢
             simp only [kV] at hfr ⊢
             clear hok hst hN
             repeat' first|refine Jk ?_|(apply qCl;rfl;rfl;rfl;rfl;first|exact cr _|exact ci _|exact cq _|exact cf _)|refine Ji ?_|refine Jx ?_|refine Jt ?_|refine Jo ?_|fail
             all_goals exact hfr _ _
           | true =>
             have cu:=cu rfl
             cases Q with
             | false =>
               have hN:XZ key i (.mk tk tnm ts tb tkids) L=none:=by
                rw [hst]
                simp [hre,hye,hc]
               rw [hN] at hK
               simp only [] at hK
               rw [hK] at hfr ⊢
               simp only [kV] at hfr ⊢
               clear hok hst hN
               repeat' first|(apply qCl;rfl;rfl;rfl;rfl;first|exact cr _|exact ci _|exact cq _|exact cf _|exact cs _)|refine Ji ?_|refine Jx ?_|refine Jt ?_|refine Jo ?_|fail
               all_goals exact hfr _ _
             | true =>
               have hN:XZ key i (.mk tk tnm ts tb tkids) L=some LU:=by
                rw [hst]
                simp [hre,hye,hc]
               rw [hN] at hK
               simp only [] at hK
               have hok:=hok LU hN
               clear hst hN hfr
               generalize hLN:enC LU=LN at cu
               repeat' first|(apply qCl;rfl;rfl;rfl;rfl;first|exact cr _|exact ci _|exact cq _|exact cf _|exact cs _|exact cu _)|refine Ji ?_|refine Jx ?_|refine Jt ?_|refine Jo ?_|fail
               exact DropQ.go [(2,.ptr 0 4 0 0),(6,.sl .none 6 LN),(15,slV b 4 TL),(16,.int .i64 (log.length:Int)),(17,.int .i64 ((i+1:Nat):Int))] ⟨rfl,rfl,rfl,rfl,Zj (Zg (n:=i+1) (by omega)),trivial⟩
                (by simp [Zl,under]) rfl (by simp [Yw,ZI,under,Zl]) (LoopI.go (m-1) (by omega) ⟨i+1,_,_,_,by omega,hK,hok.1,hok.2.1,by have:=hok.2.2;omega,by rw [hLN,show decide (i+1=0)=false by simp,Z1],rfl,rfl⟩)
       · rw [decide_eq_true hye] at bi
         have hN:XZ key i (.mk tk tnm ts tb tkids) L=none:=by
          rw [hst]
          simp [hre,hye]
         rw [hN] at hK
         simp only [] at hK
         rw [hK] at hfr ⊢
         simp only [kV] at hfr ⊢
         clear hok hst hN
         repeat' first|refine Jk ?_|refine Jc (cr _) ?_|refine Jc (ci _) ?_|refine Ji ?_|refine Jx ?_|refine Jt ?_|refine Jo ?_|fail
         all_goals exact hfr _ _
     · rw [decide_eq_true h0] at b2
       rw [decide_eq_false h0] at b3
       by_cases h9:till=9999
       · subst h9
         rw [decide_eq_false (by simp)] at b1
         by_cases hye:ye=0
         · rw [decide_eq_false (not_not_intro hye)] at bi
           cases S with
           | false =>
             have hc:=of_decide_eq_false hS.symm
             have hN:XZ key i (.mk tk tnm ts tb tkids) L=none:=by
              rw [hst]
              simp [hre,hye,hc]
             rw [hN] at hK
             simp only [] at hK
             rw [hK] at hfr ⊢
             simp only [kV] at hfr ⊢
             clear hok hst hN
             repeat' first|refine Jk ?_|(apply qCl;rfl;rfl;rfl;rfl;first|exact cr _|exact ci _|exact cq _)|refine Ji ?_|refine Jx ?_|refine Jt ?_|refine Jo ?_|fail
             all_goals exact hfr _ _
           | true =>
             have hc:=of_decide_eq_true hS.symm
             cases F with
             | false =>
               have hN:XZ key i (.mk tk tnm ts tb tkids) L=some LS:=by
                rw [hst]
                simp [hre,hye,hc]
               rw [hN] at hK
               simp only [] at hK
               have hok:=hok LS hN
               clear hst hN hfr
               generalize hLN:enC LS=LN at ct
               repeat' first|refine Jk ?_|(apply qCl;rfl;rfl;rfl;rfl;first|exact cr _|exact ci _|exact cq _|exact cf _|exact ct _)|refine Ji ?_|refine Jx ?_|refine Jt ?_|refine Jo ?_|fail
               exact DropQ.go [(2,.ptr 0 4 0 0),(6,.sl .none 6 LN),(15,slV b 4 TL),(16,.int .i64 (log.length:Int)),(17,.int .i64 ((i+1:Nat):Int))] ⟨rfl,rfl,rfl,rfl,Zj (Zg (n:=i+1) (by omega)),trivial⟩
                (by simp [Zl,under]) rfl (by simp [Yw,ZI,under,Zl]) (LoopI.go (m-1) (by omega) ⟨i+1,_,_,_,by omega,hK,hok.1,hok.2.1,by have:=hok.2.2;omega,by rw [hLN,show decide (i+1=0)=false by simp,Z1],rfl,rfl⟩)
             | true =>
               cases Q with
               | false =>
                 have hN:XZ key i (.mk tk tnm ts tb tkids) L=some LS:=by
                  rw [hst]
                  simp [hre,hye,hc]
                 rw [hN] at hK
                 simp only [] at hK
                 have hok:=hok LS hN
                 clear hst hN hfr
                 generalize hLN:enC LS=LN at ct
                 repeat' first|refine Jk ?_|(apply qCl;rfl;rfl;rfl;rfl;first|exact cr _|exact ci _|exact cq _|exact cf _|exact cs _|exact ct _)|refine Ji ?_|refine Jx ?_|refine Jt ?_|refine Jo ?_|fail
                 exact DropQ.go [(2,.ptr 0 4 0 0),(6,.sl .none 6 LN),(15,slV b 4 TL),(16,.int .i64 (log.length:Int)),(17,.int .i64 ((i+1:Nat):Int))] ⟨rfl,rfl,rfl,rfl,Zj (Zg (n:=i+1) (by omega)),trivial⟩
                  (by simp [Zl,under]) rfl (by simp [Yw,ZI,under,Zl]) (LoopI.go (m-1) (by omega) ⟨i+1,_,_,_,by omega,hK,hok.1,hok.2.1,by have:=hok.2.2;omega,by rw [hLN,show decide (i+1=0)=false by simp,Z1],rfl,rfl⟩)
               | true =>
                 have hN:XZ key i (.mk tk tnm ts tb tkids) L=none:=by
                  rw [hst]
                  simp [hre,hye,hc]
                 rw [hN] at hK
                 simp only [] at hK
                 rw [hK] at hfr ⊢
                 simp only [kV] at hfr ⊢
                 clear hok hst hN
                 repeat' first|refine Jk ?_|(apply qCl;rfl;rfl;rfl;rfl;first|exact cr _|exact ci _|exact cq _|exact cf _|exact cs _)|refine Ji ?_|refine Jx ?_|refine Jt ?_|refine Jo ?_|fail
                 all_goals exact hfr _ _
         · rw [decide_eq_true hye] at bi
           have hN:XZ key i (.mk tk tnm ts tb tkids) L=none:=by
            rw [hst]
            simp [hre,hye]
           rw [hN] at hK
           simp only [] at hK
           rw [hK] at hfr ⊢
           simp only [kV] at hfr ⊢
           clear hok hst hN
           repeat' first|refine Jk ?_|refine Jc (cr _) ?_|refine Jc (ci _) ?_|refine Ji ?_|refine Jx ?_|refine Jt ?_|refine Jo ?_|fail
           all_goals exact hfr _ _
       · rw [decide_eq_true h9] at b1
         have hN:XZ key i (.mk tk tnm ts tb tkids) L=none:=by
          rw [hst]
          simp [hre,h0,h9]
         rw [hN] at hK
         simp only [] at hK
         rw [hK] at hfr ⊢
         simp only [kV] at hfr ⊢
         clear hok hst hN
         repeat' first|refine Jc (cr _) ?_|refine Ji ?_|refine Jx ?_|refine Jt ?_|refine Jo ?_|fail
         all_goals exact hfr _ _
   · rw [decide_eq_true hre] at be
     have hN:XZ key i (.mk tk tnm ts tb tkids) L=none:=by
      rw [hst]
      simp [hre]
     rw [hN] at hK
     simp only [] at hK
     rw [hK] at hfr ⊢
     simp only [kV] at hfr ⊢
     clear hok hst hN
     repeat' first|refine Jk ?_|refine Jc (cr _) ?_|refine Ji ?_|refine Jx ?_|refine Jt ?_|refine Jo ?_|fail
     all_goals exact hfr _ _
 · have e : i = log.length := by omega
   have hlx:ZP E0 .lss 3 (.int .i64 (i:Int)) (.int .i64 (log.length:Int))=some (.bool false):=Xo (by omega)
   rw [e,List.drop_length] at hK
   simp only [WZ] at hK
   have hVe:V=slV log.isEmpty 6 (enC L):=by
    rw [hV]
    congr 1
    rw [e]
    cases log<;>simp
   rw [hK] at hfr ⊢
   simp only [kV] at hfr ⊢
   rw [← hVe] at hfr ⊢
   clear hV hVe
   repeat' first|refine Ji ?_|refine Jt ?_|refine Jo ?_|fail
   all_goals exact hfr _ _
