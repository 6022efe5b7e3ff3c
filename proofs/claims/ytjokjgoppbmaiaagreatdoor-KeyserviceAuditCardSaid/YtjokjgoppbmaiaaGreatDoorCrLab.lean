/-
  strings.Trim at the letters and digits. Dotted names, and when one lies within another, as the program computes them.
-/
import Derived.Test.YtjokjgoppbmaiaaGreatDoorCrStr
import Derived.Test.YtjokjgoppbmaiaaGreatDoorFg
set_option maxHeartbeats 64000000
set_option maxRecDepth 100000
namespace Go.Vm.Seat
open Go.Proofs
def cutS:Bs:=[97,98,99,100,101,102,103,104,105,106,107,108,109,110,111,112,113,114,115,116,117,118,119,120,121,122,48,49,50,51,52,53,54,55,56,57]
def alN (n:Nat):Bool:=(Nat.ble 97 n && Nat.ble n 122) || (Nat.ble 48 n && Nat.ble n 57)
def alB (c:UInt8):Bool:=alN c.toNat
def setC:List PV:=(List.range 256).map fun n=> .bool (alN n)
theorem setC_len:setC.length=256:=by simp [setC]
theorem setC_get {n:Nat} (h:n < 256):setC[n]? = some (.bool (alN n)):=by
 simp [setC,h]
theorem ok207:okFact E0 100 60 ⟨239,[.str cutS],.tup [.agg setC,.bool true]⟩=true:=by kernel_rfl
theorem e204:E0.T 213=some ⟨.array 256 4,256,256,.agg (List.replicate 256 (.bool false))⟩:=by kernel_rfl
theorem e4:E0.T 4=some ⟨.bool,1,1,.bool false⟩:=by kernel_rfl
theorem e9s:E0.T 9=some ⟨.string,1,16,.str []⟩:=by kernel_rfl
theorem setC_ok:setC.all cellOk=true:=by
 simp [setC,cellOk]
attribute [irreducible] setC
abbrev setH (ro:Nat) (lv:List Nat) (nt:Nat):Heap:=⟨[.cells 256 [setC]],ro,lv,nt⟩
theorem c269 (c:UInt8) (ro:Nat) (lv:List Nat) (nt:Nat):CallOk E0 Tryz.prog 269 [.ptr 0 256 0 0,.int .u8 (c.toNat:Int)] (setH ro lv nt) (.bool (alB c)) (setH ro lv nt):=by
 have hc:c.toNat < 256:=c.toNat_lt
 have h1:aIndexAddr E0 213 (.ptr 0 256 0 0) (.int .u8 (c.toNat:Int))=some (.ptr 0 256 0 (0+c.toNat * 1)):=by
  have en:nat? (.int .u8 (c.toNat:Int))=some c.toNat:=rfl
  simp only [aIndexAddr,e204,e4,en]
  rw [if_pos hc]
 have h2:aLoad E0 4 (.ptr 0 256 0 (0+c.toNat * 1)) (inner (setH ro lv nt))=some (.bool (alB c)):=by
  have hn:nth (inner (setH ro lv nt)).bx 0=some (.cells 256 [setC]):=rfl
  have hm:nth [setC] 0=some setC:=rfl
  have hd:(setC.drop (0+c.toNat * 1)).take 1= [.bool (alN c.toNat)]:=by
   have hl:c.toNat < setC.length:=by rw [setC_len];exact hc
   rw [Nat.zero_add,Nat.mul_one,List.drop_eq_getElem_cons hl]
   have:=setC_get hc
   rw [List.getElem?_eq_getElem hl] at this
   simp only [Option.some.injEq] at this
   simp [this]
  simp only [aLoad,e4,Heap.rd,hn,if_true,hm,isAggK,Bool.false_eq_true,if_false]
  rw [if_pos (by rw [setC_len];omega),hd]
  rfl
 refine callOk_wpH (own:=fun _=>false) tOk fe269.ok ?_
 refine Wp.seq ?_
 repeat' first | refine κn ?_ | refine κJ ?_ | (apply qLd;rfl;rfl;rfl;assumption;exact IsV.any _) | refine κt ?_ | refine κb ?_ ?_ | refine κg ?_ | refine κa ?_ | refine κf ?_ | intro hb
 all_goals (rw [hb];rfl)
theorem slice1 (c:UInt8) (r:Bs):aSlice E0 9 (.str (c :: r)) (some (.int .i64 1)) none none=some (.str r):=by
 have en:nat? (.int .i64 1)=some 1:=rfl
 simp only [aSlice,e9s,bound,en]
 rw [if_pos (by simp),List.take_length]
 rfl
theorem c240 (s:Bs) (ro:Nat) (lv:List Nat) (nt:Nat):CallOk E0 Tryz.prog 240 [.str s,.ptr 0 256 0 0] (setH ro lv nt) (.str (s.dropWhile alB)) (setH ro lv nt):=by
 refine callOk_wpH (own:=fun _=>false) tOk fe240.ok ?_
 refine Wp.seq ?_
 repeat' first | refine κn ?_ | refine κg ?_ | refine κa ?_ | fail
 refine Wp.while (fun m tm H=>∃ (rest:Bs) (base:TM),rest.length=m∧s.dropWhile alB=rest.dropWhile alB∧tm=ovr base [(0,.str rest),(1,.ptr 0 256 0 0)]∧H=inner (setH ro lv nt))
  (fun m tm H hI=> ?_) s.length _ _ ⟨s,_,rfl,rfl,ovr_mk ⟨rfl,rfl,trivial⟩,rfl⟩
 obtain ⟨rest,base,hl,hd,rfl,rfl⟩:=hI
 cases rest with
 | nil =>
   repeat' first | refine κn ?_ | refine κt ?_ | refine κg ?_ | refine κa ?_ | refine κf ?_ | fail
   rw [hd];rfl
 | cons c r =>
   have hc:=c269 c 1 [] nt
   have hs:=slice1 c r
   repeat' first | refine κn ?_ | refine κc hc ?_ | refine κS ?_ | refine κb ?_ ?_ | refine κg ?_ | refine κa ?_ | refine κf ?_ | intro hb
   all_goals first
    | (exfalso;simp at hb;done)
    | (exfalso;simp at hb;omega)
    | skip
   · have hc0 : alB c = false := by simpa using hb
     rw [hd]
     simp only [List.dropWhile_cons,hc0,Bool.false_eq_true,if_false]
     rfl
   · have hc0 : alB c = true := by simpa using hb
     refine LoopI.go r.length (by simp at hl;omega) ⟨r,_,rfl,?_,ovr_mk ⟨rfl,rfl,trivial⟩,rfl⟩
     rw [hd]
     simp only [List.dropWhile_cons,hc0,if_true]
def dropEnd (s:Bs):Bs:=(s.reverse.dropWhile alB).reverse
theorem dropEnd_snoc (r:Bs) (c:UInt8):dropEnd (r ++ [c])=if alB c=true then dropEnd r else r ++ [c]:=by
 simp only [dropEnd,List.reverse_append,List.reverse_cons,List.reverse_nil,List.nil_append,List.cons_append,List.dropWhile_cons]
 split
 · rfl
 · simp
theorem last_of {s:Bs} (h:s≠ []):∃ r c,s=r ++ [c]:=⟨s.dropLast,s.getLast h,(List.dropLast_concat_getLast h).symm⟩
theorem c241 (s:Bs) (hs:s.length≤100000) (ro:Nat) (lv:List Nat) (nt:Nat):CallOk E0 Tryz.prog 241 [.str s,.ptr 0 256 0 0] (setH ro lv nt) (.str (dropEnd s)) (setH ro lv nt):=by
 refine callOk_wpH (own:=fun _=>false) tOk fe241.ok ?_
 refine Wp.seq ?_
 repeat' first | refine κn ?_ | refine κg ?_ | refine κa ?_ | fail
 refine Wp.while (fun m tm H=>∃ (rest:Bs) (base:TM),rest.length=m∧rest.length≤100000∧dropEnd s=dropEnd rest∧tm=ovr base [(0,.str rest),(1,.ptr 0 256 0 0)]∧H=inner (setH ro lv nt))
  (fun m tm H hI=> ?_) s.length _ _ ⟨s,_,rfl,hs,rfl,ovr_mk ⟨rfl,rfl,trivial⟩,rfl⟩
 obtain ⟨rest,base,hl,hrl,hd,rfl,rfl⟩:=hI
 by_cases hne:rest= []
 · subst hne
   repeat' first | refine κn ?_ | refine κt ?_ | refine κg ?_ | refine κa ?_ | refine κf ?_ | fail
   rw [hd];rfl
 · obtain ⟨r, c, rfl⟩ := last_of hne
   have hc:=c269 c 1 [] nt
   have hr1:r.length≤100000:=by simp at hrl;omega
   have ew:IntKind.i64.wrap (Int.ofNat (r ++ [c]).length - 1)=(r.length:Int):=by
    have e:Int.ofNat (r ++ [c]).length - 1=(r.length:Int):=by simp
    rw [e];exact wrap_nat (by omega)
   have en:nat? (.int .i64 (r.length:Int))=some r.length:=rfl
   have hix:aIndex E0 9 (.str (r ++ [c])) (.int .i64 (IntKind.i64.wrap (Int.ofNat (r ++ [c]).length - 1)))=some (.int .u8 (c.toNat:Int)):=by
    rw [ew]
    have hn:nth (r ++ [c]) r.length=some c:=by rw [nth_eq];simp
    simp only [aIndex,e9s,en,hn]
    rfl
   have hsl:aSlice E0 9 (.str (r ++ [c])) none (some (.int .i64 (IntKind.i64.wrap (Int.ofNat (r ++ [c]).length - 1)))) none=some (.str r):=by
    rw [ew]
    simp only [aSlice,e9s,bound,en]
    rw [if_pos (by simp)]
    simp
   repeat' first | refine κn ?_ | refine κc hc ?_ | refine κS ?_ | refine κX ?_ | refine κb ?_ ?_ | refine κg ?_ | refine κa ?_ | refine κf ?_ | intro hb
   all_goals first
    | (exfalso;simp at hb;done)
    | (exfalso;simp at hb;omega)
    | skip
   · have hc0 : alB c = false := by simpa using hb
     rw [hd,dropEnd_snoc,if_neg (by simp [hc0])]
     rfl
   · have hc0 : alB c = true := by simpa using hb
     refine LoopI.go r.length (by simp at hl;omega) ⟨r,_,rfl,hr1,?_,ovr_mk ⟨rfl,rfl,trivial⟩,rfl⟩
     rw [hd,dropEnd_snoc,if_pos hc0]
theorem c239:∀ H,CallOk E0 Tryz.prog 239 [.str cutS] H (.tup [.agg setC,.bool true]) H:=okFact_ok tOk follows fOk zOk ok207
def trimS (s:Bs):Bs:=(dropEnd s).dropWhile alB
theorem store204:Heap.wr ⟨[.cells 256 [List.replicate 256 (.bool false)]],0,[],0⟩ (.ptr 0 256 0 0) setC=some (setH 0 [] 0):=by
 have h0:nth [Box.cells 256 [List.replicate 256 (PV.bool false)]] 0=some (.cells 256 [List.replicate 256 (PV.bool false)]):=rfl
 have h1:nth [List.replicate 256 (PV.bool false)] 0=some (List.replicate 256 (.bool false)):=rfl
 simp only [Heap.wr,h0,if_true,h1]
 rw [if_pos (by rw [setC_len];simp)]
 simp [Heap.put,setC_len]
theorem c192 (s:Bs) (hs:s.length≤100000):∀ H,CallOk E0 Tryz.prog 192 [.str s,.str cutS] H (.str (trimS s)) H:=by
 refine κw tOk fe192.ok rfl ?_
 have hal:∀ ρ,aOp E0 false ρ (.alloc 213) hNil=some (.ptr 0 256 0 0,⟨[.cells 256 [List.replicate 256 (.bool false)]],0,[],0⟩):=fun ρ=>by
  simp only [aOp,e204]
  rw [if_pos ⟨by simp [PV.cells],by omega⟩]
  rfl
 have hl:(Nat.beq setC.length 256 && Nat.blt 0 256)=true:=by rw [setC_len];rfl
 have hc:setC.all cellOk=true:=setC_ok
 have hst:=store204
 have h1:=c241 s hs 0 [] 0
 have h2:=c240 (dropEnd s) 0 [] 0
 repeat' first | refine κn ?_ | refine κk ?_ | (apply qCl;rfl;rfl;rfl;rfl;first | exact c239 _ | exact h1 | exact h2) | (apply RegQ.rAl;rfl;rfl;assumption) | refine κt ?_ | refine κb ?_ ?_ | refine κg ?_ | refine κa ?_ | refine κf ?_ | intro hb
 · simp at hb
   subst hb
   rfl
 · rfl
theorem dropWhile_nil {s:Bs}:s.dropWhile alB= []↔s.all alB=true:=by
 induction s with
 | nil=>simp
 | cons c r ih =>
   simp only [List.dropWhile_cons,List.all_cons,Bool.and_eq_true]
   by_cases h:alB c=true
   · simp [h,ih]
   · simp [h]
theorem trim_nil {s:Bs}:trimS s= []↔s.all alB=true:=by
 unfold trimS
 rw [dropWhile_nil]
 constructor
 · intro h
   by_cases hn:dropEnd s= []
   · unfold dropEnd at hn
     have h2:s.reverse.dropWhile alB= []:=by simpa using hn
     have:=dropWhile_nil.1 h2
     simpa using this
   · exfalso
     obtain ⟨r,c,e⟩:=last_of hn
     have hc:alB c=true:=by
      rw [e] at h
      simp only [List.all_append,List.all_cons,List.all_nil,Bool.and_true,Bool.and_eq_true] at h
      exact h.2
     have h3:s.reverse.dropWhile alB=c :: r.reverse:=by
      have:=congrArg List.reverse e
      simpa [dropEnd] using this
     have h4:=List.head_dropWhile_not alB (l:=s.reverse) (by rw [h3];simp)
     simp only [h3,List.head_cons] at h4
     rw [hc] at h4
     cases h4
 · intro h
   have h2:s.reverse.dropWhile alB= []:=dropWhile_nil.2 (by simpa using h)
   simp [dropEnd,h2]
end Go.Vm.Seat
namespace Go.Vm.Seat
open Go.Proofs
theorem c191 {s:Bs} (hs:s.length≤100000):∀ H,CallOk E0 Tryz.prog 191 [.str s,.str [46]] H (.sl .none 1 (partsC (splitD s))) H:=by
 have hc:=c236 hs
 refine κw tOk fe191.ok rfl ?_
 repeat' first | refine κn ?_ | refine κc (hc _) ?_ | refine κg ?_ | refine κa ?_ | refine κf ?_ | fail
 all_goals rfl
theorem alB_eq (c:UInt8):alB c=(lowB c || digB c):=by
 simp only [alB,alN,lowB,digB]
 congr 1 <;> (rw [Bool.eq_iff_iff];simp)
theorem labelB_iff (c:UInt8) (r:Bs):labelB (c :: r)=true↔¬ (8 < (c :: r).length)∧97≤c.toNat∧c.toNat≤122∧(c :: r).all alB=true:=by
 have e:alB=fun x=>lowB x || digB x:=funext alB_eq
 rw [e]
 simp only [labelB,lowB,Bool.and_eq_true,decide_eq_true_eq,List.all_cons,List.length_cons]
 constructor
 · rintro ⟨⟨h1, h2⟩, h3, h4⟩
   exact ⟨by omega,h1,h2,by simp [h1,h2],h3⟩
 · rintro ⟨h1, h2, h3, _, h5⟩
   exact ⟨⟨h2,h3⟩,h5,by omega⟩
def labelsR (s:Bs):PV:=match dottedB s with | true=> .sl .none 1 (partsC (splitD s)) | false=> .nils
theorem e22:E0.T 47=some ⟨.slice 9,1,24,.nils⟩:=by kernel_rfl
theorem idxP {l:List Bs} {i:Nat} {x:Bs} (h:l[i]? = some x):aIndexAddr E0 47 (.sl .none 1 (partsC l)) (.int .i64 (i:Int))=some (.fptr [.str x] 0):=by
 have en:nat? (.int .i64 (i:Int))=some i:=rfl
 have hn:nth (partsC l) i=some [.str x]:=by rw [nth_eq];simp [partsC,h]
 simp only [aIndexAddr,e22,en,e9s,if_true,hn]
theorem splitD_len (s:Bs):∀ x,x∈splitD s→x.length≤s.length:=by
 induction s with
 | nil=>intro x hx;simp [splitD] at hx;subst hx;simp
 | cons c r ih =>
   intro x hx
   simp only [splitD] at hx
   split at hx
   · rcases List.mem_cons.1 hx with rfl | hx
     · simp
     · have:=ih x hx;simp;omega
   · cases hs : splitD r with
     | nil=>exact absurd hs (splitD_ne r)
     | cons y l =>
       rw [hs] at hx ih
       rcases List.mem_cons.1 hx with rfl | hx
       · have:=ih y (by simp);simp;omega
       · have:=ih x (by simp [hx]);simp;omega
theorem c113 {s:Bs} (hs:s.length≤100000):∀ H,CallOk E0 Tryz.prog 113 [.str s] H (labelsR s) H:=by
 have hfr:frz3 0 hNil (labelsR s)=some (labelsR s):=by unfold labelsR;cases dottedB s <;> rfl
 refine callOk_wp (own:=fun _=>false) tOk fe113.ok rfl hfr ?_
 have hsp:=c191 hs
 have hlen:=splitD_len s
 obtain ⟨l,hl⟩:∃ l,l=splitD s:=⟨_,rfl⟩
 have hdot:dottedB s=(decide (l.length≤4) && l.all labelB):=by rw [hl];rfl
 have hR:labelsR s=match dottedB s with | true=> .sl .none 1 (partsC l) | false=> .nils:=by rw [hl];rfl
 rw [← hl] at hsp hlen
 have hpl:(partsC l).length=l.length:=by simp [partsC]
 refine Wp.seq ?_
 repeat' first | refine κn ?_ | refine κc (hsp _) ?_ | refine κb ?_ ?_ | refine κg ?_ | refine κa ?_ | refine κf ?_ | intro hb
 · have h4 : 4 < l.length := by rw [← hpl]; simp at hb; omega
   have hd:dottedB s=false:=by rw [hdot];simp;omega
   rw [hR,hd];rfl
 have h4:l.length≤4:=by rw [← hpl];simp at hb;omega
 refine Wp.while (fun m tm H => ∃ (i : Nat) (base : TM), i + m = l.length ∧ (l.take i).all labelB = true ∧
   tm=ovr base [(3,.sl .none 1 (partsC l)),(11,.sl .none 1 (partsC l)),(12,.int .i64 (l.length:Int)),(13,.int .i64 (i:Int))]∧H=hNil)
  (fun m tm H hI=> ?_) l.length _ _ ⟨0,_,by omega,by simp,ovr_mk ⟨rfl,rfl,int_eq (by rw [← hpl];rfl),rfl,trivial⟩,rfl⟩
 obtain ⟨i,base,hi,hall,rfl,rfl⟩:=hI
 by_cases hlt:i < l.length
 · obtain ⟨x, hx⟩ : ∃ x, l[i]? = some x := ⟨l[i], by simp⟩
   have hxm:x∈l:=List.mem_of_getElem? hx
   have hxl:x.length≤100000:=Nat.le_trans (hlen x hxm) hs
   have hia:=idxP hx
   have bad:labelB x=false→dottedB s=false:=fun h=>by
    rw [hdot]
    simp only [Bool.and_eq_false_iff]
    right
    rw [List.all_eq_false]
    exact ⟨x,hxm,by simp [h]⟩
   have htake:(l.take (i+1)).all labelB=((l.take i).all labelB && labelB x):=by
    have:l.take (i+1)=l.take i ++ [x]:=by
     rw [List.take_add_one];simp [hx]
    rw [this];simp
   have htr:=c192 x hxl
   cases x with
   | nil =>
     repeat' first | refine κn ?_ | refine κk ?_ | refine κJ ?_ | refine κt ?_ | refine κz ?_ ?_ | refine κg ?_ | refine κa ?_ | refine κf ?_ | intro hb
     · have hd := bad rfl
       rw [hR,hd];rfl
     · simp at hb;omega
   | cons c r =>
     have hlab:=labelB_iff c r
     have neg:∀ P:Prop,P→(P→¬ (¬ (8 < (c :: r).length)∧97≤c.toNat∧c.toNat≤122∧(c :: r).all alB=true))→labelB (c :: r)=false:=fun P hp hn=>by
      cases h:labelB (c :: r) with
      | false=>rfl
      | true=>exact absurd (hlab.1 h) (hn hp)
     repeat' first | refine κn ?_ | refine κk ?_ | refine κc (htr _) ?_ | refine κJ ?_ | refine κt ?_ | refine κb ?_ ?_ | refine κz ?_ ?_ | refine κg ?_ | refine κa ?_ | refine κf ?_ | intro hb
     · rw [hR, bad (neg _ hb fun h => by
         have h:8 < Int.ofNat (c :: r).length:=of_decide_eq_true h
         intro q
         have:=q.1
         simp only [Int.ofNat_eq_natCast] at h
         omega)]
       rfl
     · rw [hR, bad (neg _ hb fun h => by
         have h:Int.ofNat c.toNat < 97:=of_decide_eq_true h
         intro q
         have:=q.2.1
         simp only [Int.ofNat_eq_natCast] at h
         omega)]
       rfl
     · rw [hR, bad (neg _ hb fun h => by
         have h:122 < Int.ofNat c.toNat:=of_decide_eq_true h
         intro q
         have:=q.2.2.1
         simp only [Int.ofNat_eq_natCast] at h
         omega)]
       rfl
     · rw [hR, bad (neg _ hb fun h => by
         intro q
         rw [trim_nil.2 q.2.2.2] at h
         cases h)]
       rfl
     · rename_i hb1 hb2 hb3 hb4
       have g1:¬ (8 < (c :: r).length):=by
        have h:=of_decide_eq_false hb2
        simp only [Int.ofNat_eq_natCast] at h
        omega
       have g2:97≤c.toNat:=by
        have h:=of_decide_eq_false hb3
        simp only [Int.ofNat_eq_natCast] at h
        omega
       have g3:c.toNat≤122:=by
        have h:=of_decide_eq_false hb4
        simp only [Int.ofNat_eq_natCast] at h
        omega
       have g4:(c :: r).all alB=true:=by
        refine trim_nil.1 ?_
        simpa using hb
       have hg:=hlab.2 ⟨g1,g2,g3,g4⟩
       refine LoopI.go (m - 1) (by omega) ⟨i+1,_,by omega,by rw [htake,hall,hg];rfl,ovr_mk ⟨rfl,rfl,rfl,int_eq (wrap_nat (n:=i+1) (by omega)),trivial⟩,rfl⟩
     · exfalso;simp at hb;omega
 · have e : i = l.length := by omega
   subst e
   rw [List.take_length] at hall
   have hd:dottedB s=true:=by rw [hdot,hall];simpa using h4
   repeat' first | refine κn ?_ | refine κz ?_ ?_ | refine κg ?_ | refine κa ?_ | refine κf ?_ | intro hb
   all_goals first
    | (exfalso;simp at hb;done)
    | (rw [hR,hd];rfl)
theorem c51 {s:Bs} (hs:s.length≤100000):∀ H,CallOk E0 Tryz.prog 51 [.str s] H (.bool (dottedB s)) H:=by
 refine callOk_wp (own:=fun _=>false) tOk fe51.ok rfl rfl ?_
 have hc:=c113 hs
 unfold labelsR at hc
 cases hd:dottedB s with
 | false =>
   rw [hd] at hc
   refine Wp.seq ?_
   repeat' first | refine κn ?_ | refine κc (hc _) ?_ | refine κt ?_ | refine κg ?_ | refine κa ?_ | refine κf ?_ | fail
   all_goals rfl
 | true =>
   rw [hd] at hc
   refine Wp.seq ?_
   repeat' first | refine κn ?_ | refine κc (hc _) ?_ | refine κt ?_ | refine κg ?_ | refine κa ?_ | refine κf ?_ | fail
   all_goals rfl
end Go.Vm.Seat
