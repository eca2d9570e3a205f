import Derived.Test.YthekpjhffciakaaDoorProg
import Derived.Test.YthekpjhffciakaaDoorPure18
import Derived.KernelRfl
namespace Go.Proofs.YthekpjhffciakaaDoor
open PG Go.Proofs
-- wagebook/wagebooklaw15.EvalSwaps
def L3 : List Nat := [0, 1, 2, 4, 5, 6, 7, 8, 9, 10, 11, 12, 13, 30, 51, 71, 78, 79]
def rA2 : PCode := .regionA (.alt [⟨some 88, none, .rd (.fldAddr 3) [.tmp 10]⟩,
      ⟨some 92, none, .rd (.fldAddr 3) [.tmp 10]⟩]
     (.alt [⟨some 89, none, .rd (.load none) [.tmp 88]⟩,
       ⟨some 90, none, .rd (.idxAddr none) [.tmp 89, .pv (.int .i64 1)]⟩]
      (.alt [⟨some 91, none, .rd (.load none) [.tmp 90]⟩,
        ⟨some 93, none, .rd (.load none) [.tmp 92]⟩,
        ⟨some 94, none, .rd (.idxAddr none) [.tmp 93, .pv (.int .i64 0)]⟩,
        ⟨some 95, none, .rd (.load none) [.tmp 94]⟩,
        ⟨some 96, none, .eff (.lit none false) [.tmp 91, .tmp 95]⟩,
        ⟨some 97, none, .rd (.fldAddr 3) [.tmp 10]⟩,
        ⟨none, none, .eff (.store none) [.tmp 97, .tmp 96]⟩]
       .done
       (.alt [⟨some 93, none, .rd (.load none) [.tmp 92]⟩,
         ⟨some 94, none, .rd (.idxAddr none) [.tmp 93, .pv (.int .i64 0)]⟩]
        (.alt [⟨some 91, none, .rd (.load none) [.tmp 90]⟩,
          ⟨some 95, none, .rd (.load none) [.tmp 94]⟩,
          ⟨some 96, none, .eff (.lit none false) [.tmp 91, .tmp 95]⟩,
          ⟨some 97, none, .rd (.fldAddr 3) [.tmp 10]⟩,
          ⟨none, none, .eff (.store none) [.tmp 97, .tmp 96]⟩]
         .done
         (.alt [⟨some 95, none, .rd (.load none) [.tmp 94]⟩,
           ⟨some 91, none, .rd (.load none) [.tmp 90]⟩,
           ⟨some 96, none, .eff (.lit none false) [.tmp 91, .tmp 95]⟩,
           ⟨some 97, none, .rd (.fldAddr 3) [.tmp 10]⟩,
           ⟨none, none, .eff (.store none) [.tmp 97, .tmp 96]⟩]
          .done
          .stop))
        .stop))
      (.alt [⟨some 93, none, .rd (.load none) [.tmp 92]⟩,
        ⟨some 94, none, .rd (.idxAddr none) [.tmp 93, .pv (.int .i64 0)]⟩]
       (.alt [⟨some 89, none, .rd (.load none) [.tmp 88]⟩,
         ⟨some 90, none, .rd (.idxAddr none) [.tmp 89, .pv (.int .i64 1)]⟩]
        (.alt [⟨some 91, none, .rd (.load none) [.tmp 90]⟩,
          ⟨some 95, none, .rd (.load none) [.tmp 94]⟩,
          ⟨some 96, none, .eff (.lit none false) [.tmp 91, .tmp 95]⟩,
          ⟨some 97, none, .rd (.fldAddr 3) [.tmp 10]⟩,
          ⟨none, none, .eff (.store none) [.tmp 97, .tmp 96]⟩]
         .done
         (.alt [⟨some 95, none, .rd (.load none) [.tmp 94]⟩,
           ⟨some 91, none, .rd (.load none) [.tmp 90]⟩,
           ⟨some 96, none, .eff (.lit none false) [.tmp 91, .tmp 95]⟩,
           ⟨some 97, none, .rd (.fldAddr 3) [.tmp 10]⟩,
           ⟨none, none, .eff (.store none) [.tmp 97, .tmp 96]⟩]
          .done
          .stop))
        (.alt [⟨some 95, none, .rd (.load none) [.tmp 94]⟩,
          ⟨some 89, none, .rd (.load none) [.tmp 88]⟩,
          ⟨some 90, none, .rd (.idxAddr none) [.tmp 89, .pv (.int .i64 1)]⟩,
          ⟨some 91, none, .rd (.load none) [.tmp 90]⟩,
          ⟨some 96, none, .eff (.lit none false) [.tmp 91, .tmp 95]⟩,
          ⟨some 97, none, .rd (.fldAddr 3) [.tmp 10]⟩,
          ⟨none, none, .eff (.store none) [.tmp 97, .tmp 96]⟩]
         .done
         .stop))
       .stop))
     .stop) L3
def rA3 : PCode := .regionA (.alt [⟨some 99, none, .rd (.fldAddr 0) [.tmp 2]⟩,
      ⟨some 101, none, .rd .mov [.tmp 9]⟩]
     (.alt [⟨some 98, none, .eff (.lit (some 4) true) []⟩]
      (.alt [⟨some 100, none, .rd (.load none) [.tmp 99]⟩,
        ⟨some 102, none, .rd (.slc (some 4) false true false) [.tmp 100, .tmp 101]⟩]
       (.alt [⟨some 103, none, .eff (.append (some 4) 56) [.tmp 98, .tmp 102]⟩]
        (.alt [⟨some 104, none, .rd (.load (some 4)) [.tmp 10]⟩]
         (.alt [⟨some 105, none, .eff (.lit (some 4) false) [.tmp 104]⟩]
          (.alt [⟨some 106, none, .eff (.append (some 4) 56) [.tmp 103, .tmp 105]⟩,
            ⟨some 107, none, .rd (.build [.nilSl] [(0, 1)]) [.tmp 106]⟩,
            ⟨some 11, none, .eff (.alloc (some 1) (.agg [.nilSl])) []⟩,
            ⟨none, none, .eff (.store (some 1)) [.tmp 11, .tmp 107]⟩]
           .done
           (.alt [⟨some 11, none, .eff (.alloc (some 1) (.agg [.nilSl])) []⟩,
             ⟨some 106, none, .eff (.append (some 4) 56) [.tmp 103, .tmp 105]⟩,
             ⟨some 107, none, .rd (.build [.nilSl] [(0, 1)]) [.tmp 106]⟩,
             ⟨none, none, .eff (.store (some 1)) [.tmp 11, .tmp 107]⟩]
            .done
            .stop))
          (.alt [⟨some 11, none, .eff (.alloc (some 1) (.agg [.nilSl])) []⟩,
            ⟨some 105, none, .eff (.lit (some 4) false) [.tmp 104]⟩,
            ⟨some 106, none, .eff (.append (some 4) 56) [.tmp 103, .tmp 105]⟩,
            ⟨some 107, none, .rd (.build [.nilSl] [(0, 1)]) [.tmp 106]⟩,
            ⟨none, none, .eff (.store (some 1)) [.tmp 11, .tmp 107]⟩]
           .done
           .stop))
         (.alt [⟨some 11, none, .eff (.alloc (some 1) (.agg [.nilSl])) []⟩,
           ⟨some 104, none, .rd (.load (some 4)) [.tmp 10]⟩,
           ⟨some 105, none, .eff (.lit (some 4) false) [.tmp 104]⟩,
           ⟨some 106, none, .eff (.append (some 4) 56) [.tmp 103, .tmp 105]⟩,
           ⟨some 107, none, .rd (.build [.nilSl] [(0, 1)]) [.tmp 106]⟩,
           ⟨none, none, .eff (.store (some 1)) [.tmp 11, .tmp 107]⟩]
          .done
          .stop))
        (.alt [⟨some 104, none, .rd (.load (some 4)) [.tmp 10]⟩]
         (.alt [⟨some 103, none, .eff (.append (some 4) 56) [.tmp 98, .tmp 102]⟩]
          (.alt [⟨some 105, none, .eff (.lit (some 4) false) [.tmp 104]⟩]
           (.alt [⟨some 106, none, .eff (.append (some 4) 56) [.tmp 103, .tmp 105]⟩,
             ⟨some 107, none, .rd (.build [.nilSl] [(0, 1)]) [.tmp 106]⟩,
             ⟨some 11, none, .eff (.alloc (some 1) (.agg [.nilSl])) []⟩,
             ⟨none, none, .eff (.store (some 1)) [.tmp 11, .tmp 107]⟩]
            .done
            (.alt [⟨some 11, none, .eff (.alloc (some 1) (.agg [.nilSl])) []⟩,
              ⟨some 106, none, .eff (.append (some 4) 56) [.tmp 103, .tmp 105]⟩,
              ⟨some 107, none, .rd (.build [.nilSl] [(0, 1)]) [.tmp 106]⟩,
              ⟨none, none, .eff (.store (some 1)) [.tmp 11, .tmp 107]⟩]
             .done
             .stop))
           (.alt [⟨some 11, none, .eff (.alloc (some 1) (.agg [.nilSl])) []⟩,
             ⟨some 105, none, .eff (.lit (some 4) false) [.tmp 104]⟩,
             ⟨some 106, none, .eff (.append (some 4) 56) [.tmp 103, .tmp 105]⟩,
             ⟨some 107, none, .rd (.build [.nilSl] [(0, 1)]) [.tmp 106]⟩,
             ⟨none, none, .eff (.store (some 1)) [.tmp 11, .tmp 107]⟩]
            .done
            .stop))
          (.alt [⟨some 105, none, .eff (.lit (some 4) false) [.tmp 104]⟩]
           (.alt [⟨some 103, none, .eff (.append (some 4) 56) [.tmp 98, .tmp 102]⟩]
            (.alt [⟨some 106, none, .eff (.append (some 4) 56) [.tmp 103, .tmp 105]⟩,
              ⟨some 107, none, .rd (.build [.nilSl] [(0, 1)]) [.tmp 106]⟩,
              ⟨some 11, none, .eff (.alloc (some 1) (.agg [.nilSl])) []⟩,
              ⟨none, none, .eff (.store (some 1)) [.tmp 11, .tmp 107]⟩]
             .done
             (.alt [⟨some 11, none, .eff (.alloc (some 1) (.agg [.nilSl])) []⟩,
               ⟨some 106, none, .eff (.append (some 4) 56) [.tmp 103, .tmp 105]⟩,
               ⟨some 107, none, .rd (.build [.nilSl] [(0, 1)]) [.tmp 106]⟩,
               ⟨none, none, .eff (.store (some 1)) [.tmp 11, .tmp 107]⟩]
              .done
              .stop))
            (.alt [⟨some 11, none, .eff (.alloc (some 1) (.agg [.nilSl])) []⟩,
              ⟨some 103, none, .eff (.append (some 4) 56) [.tmp 98, .tmp 102]⟩,
              ⟨some 106, none, .eff (.append (some 4) 56) [.tmp 103, .tmp 105]⟩,
              ⟨some 107, none, .rd (.build [.nilSl] [(0, 1)]) [.tmp 106]⟩,
              ⟨none, none, .eff (.store (some 1)) [.tmp 11, .tmp 107]⟩]
             .done
             .stop))
           (.alt [⟨some 11, none, .eff (.alloc (some 1) (.agg [.nilSl])) []⟩]
            (.alt [⟨some 103, none, .eff (.append (some 4) 56) [.tmp 98, .tmp 102]⟩,
              ⟨some 105, none, .eff (.lit (some 4) false) [.tmp 104]⟩,
              ⟨some 106, none, .eff (.append (some 4) 56) [.tmp 103, .tmp 105]⟩,
              ⟨some 107, none, .rd (.build [.nilSl] [(0, 1)]) [.tmp 106]⟩,
              ⟨none, none, .eff (.store (some 1)) [.tmp 11, .tmp 107]⟩]
             .done
             (.alt [⟨some 105, none, .eff (.lit (some 4) false) [.tmp 104]⟩,
               ⟨some 103, none, .eff (.append (some 4) 56) [.tmp 98, .tmp 102]⟩,
               ⟨some 106, none, .eff (.append (some 4) 56) [.tmp 103, .tmp 105]⟩,
               ⟨some 107, none, .rd (.build [.nilSl] [(0, 1)]) [.tmp 106]⟩,
               ⟨none, none, .eff (.store (some 1)) [.tmp 11, .tmp 107]⟩]
              .done
              .stop))
            .stop)))
         (.alt [⟨some 11, none, .eff (.alloc (some 1) (.agg [.nilSl])) []⟩]
          (.alt [⟨some 103, none, .eff (.append (some 4) 56) [.tmp 98, .tmp 102]⟩,
            ⟨some 104, none, .rd (.load (some 4)) [.tmp 10]⟩,
            ⟨some 105, none, .eff (.lit (some 4) false) [.tmp 104]⟩,
            ⟨some 106, none, .eff (.append (some 4) 56) [.tmp 103, .tmp 105]⟩,
            ⟨some 107, none, .rd (.build [.nilSl] [(0, 1)]) [.tmp 106]⟩,
            ⟨none, none, .eff (.store (some 1)) [.tmp 11, .tmp 107]⟩]
           .done
           (.alt [⟨some 104, none, .rd (.load (some 4)) [.tmp 10]⟩]
            (.alt [⟨some 103, none, .eff (.append (some 4) 56) [.tmp 98, .tmp 102]⟩,
              ⟨some 105, none, .eff (.lit (some 4) false) [.tmp 104]⟩,
              ⟨some 106, none, .eff (.append (some 4) 56) [.tmp 103, .tmp 105]⟩,
              ⟨some 107, none, .rd (.build [.nilSl] [(0, 1)]) [.tmp 106]⟩,
              ⟨none, none, .eff (.store (some 1)) [.tmp 11, .tmp 107]⟩]
             .done
             (.alt [⟨some 105, none, .eff (.lit (some 4) false) [.tmp 104]⟩,
               ⟨some 103, none, .eff (.append (some 4) 56) [.tmp 98, .tmp 102]⟩,
               ⟨some 106, none, .eff (.append (some 4) 56) [.tmp 103, .tmp 105]⟩,
               ⟨some 107, none, .rd (.build [.nilSl] [(0, 1)]) [.tmp 106]⟩,
               ⟨none, none, .eff (.store (some 1)) [.tmp 11, .tmp 107]⟩]
              .done
              .stop))
            .stop))
          .stop)))
       (.alt [⟨some 104, none, .rd (.load (some 4)) [.tmp 10]⟩]
        (.alt [⟨some 100, none, .rd (.load none) [.tmp 99]⟩,
          ⟨some 102, none, .rd (.slc (some 4) false true false) [.tmp 100, .tmp 101]⟩]
         (.alt [⟨some 103, none, .eff (.append (some 4) 56) [.tmp 98, .tmp 102]⟩]
          (.alt [⟨some 105, none, .eff (.lit (some 4) false) [.tmp 104]⟩]
           (.alt [⟨some 106, none, .eff (.append (some 4) 56) [.tmp 103, .tmp 105]⟩,
             ⟨some 107, none, .rd (.build [.nilSl] [(0, 1)]) [.tmp 106]⟩,
             ⟨some 11, none, .eff (.alloc (some 1) (.agg [.nilSl])) []⟩,
             ⟨none, none, .eff (.store (some 1)) [.tmp 11, .tmp 107]⟩]
            .done
            (.alt [⟨some 11, none, .eff (.alloc (some 1) (.agg [.nilSl])) []⟩,
              ⟨some 106, none, .eff (.append (some 4) 56) [.tmp 103, .tmp 105]⟩,
              ⟨some 107, none, .rd (.build [.nilSl] [(0, 1)]) [.tmp 106]⟩,
              ⟨none, none, .eff (.store (some 1)) [.tmp 11, .tmp 107]⟩]
             .done
             .stop))
           (.alt [⟨some 11, none, .eff (.alloc (some 1) (.agg [.nilSl])) []⟩,
             ⟨some 105, none, .eff (.lit (some 4) false) [.tmp 104]⟩,
             ⟨some 106, none, .eff (.append (some 4) 56) [.tmp 103, .tmp 105]⟩,
             ⟨some 107, none, .rd (.build [.nilSl] [(0, 1)]) [.tmp 106]⟩,
             ⟨none, none, .eff (.store (some 1)) [.tmp 11, .tmp 107]⟩]
            .done
            .stop))
          (.alt [⟨some 105, none, .eff (.lit (some 4) false) [.tmp 104]⟩]
           (.alt [⟨some 103, none, .eff (.append (some 4) 56) [.tmp 98, .tmp 102]⟩]
            (.alt [⟨some 106, none, .eff (.append (some 4) 56) [.tmp 103, .tmp 105]⟩,
              ⟨some 107, none, .rd (.build [.nilSl] [(0, 1)]) [.tmp 106]⟩,
              ⟨some 11, none, .eff (.alloc (some 1) (.agg [.nilSl])) []⟩,
              ⟨none, none, .eff (.store (some 1)) [.tmp 11, .tmp 107]⟩]
             .done
             (.alt [⟨some 11, none, .eff (.alloc (some 1) (.agg [.nilSl])) []⟩,
               ⟨some 106, none, .eff (.append (some 4) 56) [.tmp 103, .tmp 105]⟩,
               ⟨some 107, none, .rd (.build [.nilSl] [(0, 1)]) [.tmp 106]⟩,
               ⟨none, none, .eff (.store (some 1)) [.tmp 11, .tmp 107]⟩]
              .done
              .stop))
            (.alt [⟨some 11, none, .eff (.alloc (some 1) (.agg [.nilSl])) []⟩,
              ⟨some 103, none, .eff (.append (some 4) 56) [.tmp 98, .tmp 102]⟩,
              ⟨some 106, none, .eff (.append (some 4) 56) [.tmp 103, .tmp 105]⟩,
              ⟨some 107, none, .rd (.build [.nilSl] [(0, 1)]) [.tmp 106]⟩,
              ⟨none, none, .eff (.store (some 1)) [.tmp 11, .tmp 107]⟩]
             .done
             .stop))
           (.alt [⟨some 11, none, .eff (.alloc (some 1) (.agg [.nilSl])) []⟩]
            (.alt [⟨some 103, none, .eff (.append (some 4) 56) [.tmp 98, .tmp 102]⟩,
              ⟨some 105, none, .eff (.lit (some 4) false) [.tmp 104]⟩,
              ⟨some 106, none, .eff (.append (some 4) 56) [.tmp 103, .tmp 105]⟩,
              ⟨some 107, none, .rd (.build [.nilSl] [(0, 1)]) [.tmp 106]⟩,
              ⟨none, none, .eff (.store (some 1)) [.tmp 11, .tmp 107]⟩]
             .done
             (.alt [⟨some 105, none, .eff (.lit (some 4) false) [.tmp 104]⟩,
               ⟨some 103, none, .eff (.append (some 4) 56) [.tmp 98, .tmp 102]⟩,
               ⟨some 106, none, .eff (.append (some 4) 56) [.tmp 103, .tmp 105]⟩,
               ⟨some 107, none, .rd (.build [.nilSl] [(0, 1)]) [.tmp 106]⟩,
               ⟨none, none, .eff (.store (some 1)) [.tmp 11, .tmp 107]⟩]
              .done
              .stop))
            .stop)))
         (.alt [⟨some 105, none, .eff (.lit (some 4) false) [.tmp 104]⟩]
          (.alt [⟨some 100, none, .rd (.load none) [.tmp 99]⟩,
            ⟨some 102, none, .rd (.slc (some 4) false true false) [.tmp 100, .tmp 101]⟩]
           (.alt [⟨some 103, none, .eff (.append (some 4) 56) [.tmp 98, .tmp 102]⟩]
            (.alt [⟨some 106, none, .eff (.append (some 4) 56) [.tmp 103, .tmp 105]⟩,
              ⟨some 107, none, .rd (.build [.nilSl] [(0, 1)]) [.tmp 106]⟩,
              ⟨some 11, none, .eff (.alloc (some 1) (.agg [.nilSl])) []⟩,
              ⟨none, none, .eff (.store (some 1)) [.tmp 11, .tmp 107]⟩]
             .done
             (.alt [⟨some 11, none, .eff (.alloc (some 1) (.agg [.nilSl])) []⟩,
               ⟨some 106, none, .eff (.append (some 4) 56) [.tmp 103, .tmp 105]⟩,
               ⟨some 107, none, .rd (.build [.nilSl] [(0, 1)]) [.tmp 106]⟩,
               ⟨none, none, .eff (.store (some 1)) [.tmp 11, .tmp 107]⟩]
              .done
              .stop))
            (.alt [⟨some 11, none, .eff (.alloc (some 1) (.agg [.nilSl])) []⟩,
              ⟨some 103, none, .eff (.append (some 4) 56) [.tmp 98, .tmp 102]⟩,
              ⟨some 106, none, .eff (.append (some 4) 56) [.tmp 103, .tmp 105]⟩,
              ⟨some 107, none, .rd (.build [.nilSl] [(0, 1)]) [.tmp 106]⟩,
              ⟨none, none, .eff (.store (some 1)) [.tmp 11, .tmp 107]⟩]
             .done
             .stop))
           (.alt [⟨some 11, none, .eff (.alloc (some 1) (.agg [.nilSl])) []⟩,
             ⟨some 100, none, .rd (.load none) [.tmp 99]⟩,
             ⟨some 102, none, .rd (.slc (some 4) false true false) [.tmp 100, .tmp 101]⟩,
             ⟨some 103, none, .eff (.append (some 4) 56) [.tmp 98, .tmp 102]⟩,
             ⟨some 106, none, .eff (.append (some 4) 56) [.tmp 103, .tmp 105]⟩,
             ⟨some 107, none, .rd (.build [.nilSl] [(0, 1)]) [.tmp 106]⟩,
             ⟨none, none, .eff (.store (some 1)) [.tmp 11, .tmp 107]⟩]
            .done
            .stop))
          (.alt [⟨some 11, none, .eff (.alloc (some 1) (.agg [.nilSl])) []⟩]
           (.alt [⟨some 100, none, .rd (.load none) [.tmp 99]⟩,
             ⟨some 102, none, .rd (.slc (some 4) false true false) [.tmp 100, .tmp 101]⟩]
            (.alt [⟨some 103, none, .eff (.append (some 4) 56) [.tmp 98, .tmp 102]⟩,
              ⟨some 105, none, .eff (.lit (some 4) false) [.tmp 104]⟩,
              ⟨some 106, none, .eff (.append (some 4) 56) [.tmp 103, .tmp 105]⟩,
              ⟨some 107, none, .rd (.build [.nilSl] [(0, 1)]) [.tmp 106]⟩,
              ⟨none, none, .eff (.store (some 1)) [.tmp 11, .tmp 107]⟩]
             .done
             (.alt [⟨some 105, none, .eff (.lit (some 4) false) [.tmp 104]⟩,
               ⟨some 103, none, .eff (.append (some 4) 56) [.tmp 98, .tmp 102]⟩,
               ⟨some 106, none, .eff (.append (some 4) 56) [.tmp 103, .tmp 105]⟩,
               ⟨some 107, none, .rd (.build [.nilSl] [(0, 1)]) [.tmp 106]⟩,
               ⟨none, none, .eff (.store (some 1)) [.tmp 11, .tmp 107]⟩]
              .done
              .stop))
            (.alt [⟨some 105, none, .eff (.lit (some 4) false) [.tmp 104]⟩,
              ⟨some 100, none, .rd (.load none) [.tmp 99]⟩,
              ⟨some 102, none, .rd (.slc (some 4) false true false) [.tmp 100, .tmp 101]⟩,
              ⟨some 103, none, .eff (.append (some 4) 56) [.tmp 98, .tmp 102]⟩,
              ⟨some 106, none, .eff (.append (some 4) 56) [.tmp 103, .tmp 105]⟩,
              ⟨some 107, none, .rd (.build [.nilSl] [(0, 1)]) [.tmp 106]⟩,
              ⟨none, none, .eff (.store (some 1)) [.tmp 11, .tmp 107]⟩]
             .done
             .stop))
           .stop)))
        (.alt [⟨some 11, none, .eff (.alloc (some 1) (.agg [.nilSl])) []⟩]
         (.alt [⟨some 100, none, .rd (.load none) [.tmp 99]⟩,
           ⟨some 102, none, .rd (.slc (some 4) false true false) [.tmp 100, .tmp 101]⟩]
          (.alt [⟨some 103, none, .eff (.append (some 4) 56) [.tmp 98, .tmp 102]⟩,
            ⟨some 104, none, .rd (.load (some 4)) [.tmp 10]⟩,
            ⟨some 105, none, .eff (.lit (some 4) false) [.tmp 104]⟩,
            ⟨some 106, none, .eff (.append (some 4) 56) [.tmp 103, .tmp 105]⟩,
            ⟨some 107, none, .rd (.build [.nilSl] [(0, 1)]) [.tmp 106]⟩,
            ⟨none, none, .eff (.store (some 1)) [.tmp 11, .tmp 107]⟩]
           .done
           (.alt [⟨some 104, none, .rd (.load (some 4)) [.tmp 10]⟩]
            (.alt [⟨some 103, none, .eff (.append (some 4) 56) [.tmp 98, .tmp 102]⟩,
              ⟨some 105, none, .eff (.lit (some 4) false) [.tmp 104]⟩,
              ⟨some 106, none, .eff (.append (some 4) 56) [.tmp 103, .tmp 105]⟩,
              ⟨some 107, none, .rd (.build [.nilSl] [(0, 1)]) [.tmp 106]⟩,
              ⟨none, none, .eff (.store (some 1)) [.tmp 11, .tmp 107]⟩]
             .done
             (.alt [⟨some 105, none, .eff (.lit (some 4) false) [.tmp 104]⟩,
               ⟨some 103, none, .eff (.append (some 4) 56) [.tmp 98, .tmp 102]⟩,
               ⟨some 106, none, .eff (.append (some 4) 56) [.tmp 103, .tmp 105]⟩,
               ⟨some 107, none, .rd (.build [.nilSl] [(0, 1)]) [.tmp 106]⟩,
               ⟨none, none, .eff (.store (some 1)) [.tmp 11, .tmp 107]⟩]
              .done
              .stop))
            .stop))
          (.alt [⟨some 104, none, .rd (.load (some 4)) [.tmp 10]⟩]
           (.alt [⟨some 100, none, .rd (.load none) [.tmp 99]⟩,
             ⟨some 102, none, .rd (.slc (some 4) false true false) [.tmp 100, .tmp 101]⟩]
            (.alt [⟨some 103, none, .eff (.append (some 4) 56) [.tmp 98, .tmp 102]⟩,
              ⟨some 105, none, .eff (.lit (some 4) false) [.tmp 104]⟩,
              ⟨some 106, none, .eff (.append (some 4) 56) [.tmp 103, .tmp 105]⟩,
              ⟨some 107, none, .rd (.build [.nilSl] [(0, 1)]) [.tmp 106]⟩,
              ⟨none, none, .eff (.store (some 1)) [.tmp 11, .tmp 107]⟩]
             .done
             (.alt [⟨some 105, none, .eff (.lit (some 4) false) [.tmp 104]⟩,
               ⟨some 103, none, .eff (.append (some 4) 56) [.tmp 98, .tmp 102]⟩,
               ⟨some 106, none, .eff (.append (some 4) 56) [.tmp 103, .tmp 105]⟩,
               ⟨some 107, none, .rd (.build [.nilSl] [(0, 1)]) [.tmp 106]⟩,
               ⟨none, none, .eff (.store (some 1)) [.tmp 11, .tmp 107]⟩]
              .done
              .stop))
            (.alt [⟨some 105, none, .eff (.lit (some 4) false) [.tmp 104]⟩,
              ⟨some 100, none, .rd (.load none) [.tmp 99]⟩,
              ⟨some 102, none, .rd (.slc (some 4) false true false) [.tmp 100, .tmp 101]⟩,
              ⟨some 103, none, .eff (.append (some 4) 56) [.tmp 98, .tmp 102]⟩,
              ⟨some 106, none, .eff (.append (some 4) 56) [.tmp 103, .tmp 105]⟩,
              ⟨some 107, none, .rd (.build [.nilSl] [(0, 1)]) [.tmp 106]⟩,
              ⟨none, none, .eff (.store (some 1)) [.tmp 11, .tmp 107]⟩]
             .done
             .stop))
           .stop))
         .stop)))
      (.alt [⟨some 100, none, .rd (.load none) [.tmp 99]⟩,
        ⟨some 102, none, .rd (.slc (some 4) false true false) [.tmp 100, .tmp 101]⟩]
       (.alt [⟨some 98, none, .eff (.lit (some 4) true) []⟩]
        (.alt [⟨some 103, none, .eff (.append (some 4) 56) [.tmp 98, .tmp 102]⟩]
         (.alt [⟨some 104, none, .rd (.load (some 4)) [.tmp 10]⟩]
          (.alt [⟨some 105, none, .eff (.lit (some 4) false) [.tmp 104]⟩]
           (.alt [⟨some 106, none, .eff (.append (some 4) 56) [.tmp 103, .tmp 105]⟩,
             ⟨some 107, none, .rd (.build [.nilSl] [(0, 1)]) [.tmp 106]⟩,
             ⟨some 11, none, .eff (.alloc (some 1) (.agg [.nilSl])) []⟩,
             ⟨none, none, .eff (.store (some 1)) [.tmp 11, .tmp 107]⟩]
            .done
            (.alt [⟨some 11, none, .eff (.alloc (some 1) (.agg [.nilSl])) []⟩,
              ⟨some 106, none, .eff (.append (some 4) 56) [.tmp 103, .tmp 105]⟩,
              ⟨some 107, none, .rd (.build [.nilSl] [(0, 1)]) [.tmp 106]⟩,
              ⟨none, none, .eff (.store (some 1)) [.tmp 11, .tmp 107]⟩]
             .done
             .stop))
           (.alt [⟨some 11, none, .eff (.alloc (some 1) (.agg [.nilSl])) []⟩,
             ⟨some 105, none, .eff (.lit (some 4) false) [.tmp 104]⟩,
             ⟨some 106, none, .eff (.append (some 4) 56) [.tmp 103, .tmp 105]⟩,
             ⟨some 107, none, .rd (.build [.nilSl] [(0, 1)]) [.tmp 106]⟩,
             ⟨none, none, .eff (.store (some 1)) [.tmp 11, .tmp 107]⟩]
            .done
            .stop))
          (.alt [⟨some 11, none, .eff (.alloc (some 1) (.agg [.nilSl])) []⟩,
            ⟨some 104, none, .rd (.load (some 4)) [.tmp 10]⟩,
            ⟨some 105, none, .eff (.lit (some 4) false) [.tmp 104]⟩,
            ⟨some 106, none, .eff (.append (some 4) 56) [.tmp 103, .tmp 105]⟩,
            ⟨some 107, none, .rd (.build [.nilSl] [(0, 1)]) [.tmp 106]⟩,
            ⟨none, none, .eff (.store (some 1)) [.tmp 11, .tmp 107]⟩]
           .done
           .stop))
         (.alt [⟨some 104, none, .rd (.load (some 4)) [.tmp 10]⟩]
          (.alt [⟨some 103, none, .eff (.append (some 4) 56) [.tmp 98, .tmp 102]⟩]
           (.alt [⟨some 105, none, .eff (.lit (some 4) false) [.tmp 104]⟩]
            (.alt [⟨some 106, none, .eff (.append (some 4) 56) [.tmp 103, .tmp 105]⟩,
              ⟨some 107, none, .rd (.build [.nilSl] [(0, 1)]) [.tmp 106]⟩,
              ⟨some 11, none, .eff (.alloc (some 1) (.agg [.nilSl])) []⟩,
              ⟨none, none, .eff (.store (some 1)) [.tmp 11, .tmp 107]⟩]
             .done
             (.alt [⟨some 11, none, .eff (.alloc (some 1) (.agg [.nilSl])) []⟩,
               ⟨some 106, none, .eff (.append (some 4) 56) [.tmp 103, .tmp 105]⟩,
               ⟨some 107, none, .rd (.build [.nilSl] [(0, 1)]) [.tmp 106]⟩,
               ⟨none, none, .eff (.store (some 1)) [.tmp 11, .tmp 107]⟩]
              .done
              .stop))
            (.alt [⟨some 11, none, .eff (.alloc (some 1) (.agg [.nilSl])) []⟩,
              ⟨some 105, none, .eff (.lit (some 4) false) [.tmp 104]⟩,
              ⟨some 106, none, .eff (.append (some 4) 56) [.tmp 103, .tmp 105]⟩,
              ⟨some 107, none, .rd (.build [.nilSl] [(0, 1)]) [.tmp 106]⟩,
              ⟨none, none, .eff (.store (some 1)) [.tmp 11, .tmp 107]⟩]
             .done
             .stop))
           (.alt [⟨some 105, none, .eff (.lit (some 4) false) [.tmp 104]⟩]
            (.alt [⟨some 103, none, .eff (.append (some 4) 56) [.tmp 98, .tmp 102]⟩]
             (.alt [⟨some 106, none, .eff (.append (some 4) 56) [.tmp 103, .tmp 105]⟩,
               ⟨some 107, none, .rd (.build [.nilSl] [(0, 1)]) [.tmp 106]⟩,
               ⟨some 11, none, .eff (.alloc (some 1) (.agg [.nilSl])) []⟩,
               ⟨none, none, .eff (.store (some 1)) [.tmp 11, .tmp 107]⟩]
              .done
              (.alt [⟨some 11, none, .eff (.alloc (some 1) (.agg [.nilSl])) []⟩,
                ⟨some 106, none, .eff (.append (some 4) 56) [.tmp 103, .tmp 105]⟩,
                ⟨some 107, none, .rd (.build [.nilSl] [(0, 1)]) [.tmp 106]⟩,
                ⟨none, none, .eff (.store (some 1)) [.tmp 11, .tmp 107]⟩]
               .done
               .stop))
             (.alt [⟨some 11, none, .eff (.alloc (some 1) (.agg [.nilSl])) []⟩,
               ⟨some 103, none, .eff (.append (some 4) 56) [.tmp 98, .tmp 102]⟩,
               ⟨some 106, none, .eff (.append (some 4) 56) [.tmp 103, .tmp 105]⟩,
               ⟨some 107, none, .rd (.build [.nilSl] [(0, 1)]) [.tmp 106]⟩,
               ⟨none, none, .eff (.store (some 1)) [.tmp 11, .tmp 107]⟩]
              .done
              .stop))
            (.alt [⟨some 11, none, .eff (.alloc (some 1) (.agg [.nilSl])) []⟩]
             (.alt [⟨some 103, none, .eff (.append (some 4) 56) [.tmp 98, .tmp 102]⟩,
               ⟨some 105, none, .eff (.lit (some 4) false) [.tmp 104]⟩,
               ⟨some 106, none, .eff (.append (some 4) 56) [.tmp 103, .tmp 105]⟩,
               ⟨some 107, none, .rd (.build [.nilSl] [(0, 1)]) [.tmp 106]⟩,
               ⟨none, none, .eff (.store (some 1)) [.tmp 11, .tmp 107]⟩]
              .done
              (.alt [⟨some 105, none, .eff (.lit (some 4) false) [.tmp 104]⟩,
                ⟨some 103, none, .eff (.append (some 4) 56) [.tmp 98, .tmp 102]⟩,
                ⟨some 106, none, .eff (.append (some 4) 56) [.tmp 103, .tmp 105]⟩,
                ⟨some 107, none, .rd (.build [.nilSl] [(0, 1)]) [.tmp 106]⟩,
                ⟨none, none, .eff (.store (some 1)) [.tmp 11, .tmp 107]⟩]
               .done
               .stop))
             .stop)))
          (.alt [⟨some 11, none, .eff (.alloc (some 1) (.agg [.nilSl])) []⟩]
           (.alt [⟨some 103, none, .eff (.append (some 4) 56) [.tmp 98, .tmp 102]⟩,
             ⟨some 104, none, .rd (.load (some 4)) [.tmp 10]⟩,
             ⟨some 105, none, .eff (.lit (some 4) false) [.tmp 104]⟩,
             ⟨some 106, none, .eff (.append (some 4) 56) [.tmp 103, .tmp 105]⟩,
             ⟨some 107, none, .rd (.build [.nilSl] [(0, 1)]) [.tmp 106]⟩,
             ⟨none, none, .eff (.store (some 1)) [.tmp 11, .tmp 107]⟩]
            .done
            (.alt [⟨some 104, none, .rd (.load (some 4)) [.tmp 10]⟩]
             (.alt [⟨some 103, none, .eff (.append (some 4) 56) [.tmp 98, .tmp 102]⟩,
               ⟨some 105, none, .eff (.lit (some 4) false) [.tmp 104]⟩,
               ⟨some 106, none, .eff (.append (some 4) 56) [.tmp 103, .tmp 105]⟩,
               ⟨some 107, none, .rd (.build [.nilSl] [(0, 1)]) [.tmp 106]⟩,
               ⟨none, none, .eff (.store (some 1)) [.tmp 11, .tmp 107]⟩]
              .done
              (.alt [⟨some 105, none, .eff (.lit (some 4) false) [.tmp 104]⟩,
                ⟨some 103, none, .eff (.append (some 4) 56) [.tmp 98, .tmp 102]⟩,
                ⟨some 106, none, .eff (.append (some 4) 56) [.tmp 103, .tmp 105]⟩,
                ⟨some 107, none, .rd (.build [.nilSl] [(0, 1)]) [.tmp 106]⟩,
                ⟨none, none, .eff (.store (some 1)) [.tmp 11, .tmp 107]⟩]
               .done
               .stop))
             .stop))
           .stop)))
        (.alt [⟨some 104, none, .rd (.load (some 4)) [.tmp 10]⟩]
         (.alt [⟨some 98, none, .eff (.lit (some 4) true) []⟩]
          (.alt [⟨some 103, none, .eff (.append (some 4) 56) [.tmp 98, .tmp 102]⟩]
           (.alt [⟨some 105, none, .eff (.lit (some 4) false) [.tmp 104]⟩]
            (.alt [⟨some 106, none, .eff (.append (some 4) 56) [.tmp 103, .tmp 105]⟩,
              ⟨some 107, none, .rd (.build [.nilSl] [(0, 1)]) [.tmp 106]⟩,
              ⟨some 11, none, .eff (.alloc (some 1) (.agg [.nilSl])) []⟩,
              ⟨none, none, .eff (.store (some 1)) [.tmp 11, .tmp 107]⟩]
             .done
             (.alt [⟨some 11, none, .eff (.alloc (some 1) (.agg [.nilSl])) []⟩,
               ⟨some 106, none, .eff (.append (some 4) 56) [.tmp 103, .tmp 105]⟩,
               ⟨some 107, none, .rd (.build [.nilSl] [(0, 1)]) [.tmp 106]⟩,
               ⟨none, none, .eff (.store (some 1)) [.tmp 11, .tmp 107]⟩]
              .done
              .stop))
            (.alt [⟨some 11, none, .eff (.alloc (some 1) (.agg [.nilSl])) []⟩,
              ⟨some 105, none, .eff (.lit (some 4) false) [.tmp 104]⟩,
              ⟨some 106, none, .eff (.append (some 4) 56) [.tmp 103, .tmp 105]⟩,
              ⟨some 107, none, .rd (.build [.nilSl] [(0, 1)]) [.tmp 106]⟩,
              ⟨none, none, .eff (.store (some 1)) [.tmp 11, .tmp 107]⟩]
             .done
             .stop))
           (.alt [⟨some 105, none, .eff (.lit (some 4) false) [.tmp 104]⟩]
            (.alt [⟨some 103, none, .eff (.append (some 4) 56) [.tmp 98, .tmp 102]⟩]
             (.alt [⟨some 106, none, .eff (.append (some 4) 56) [.tmp 103, .tmp 105]⟩,
               ⟨some 107, none, .rd (.build [.nilSl] [(0, 1)]) [.tmp 106]⟩,
               ⟨some 11, none, .eff (.alloc (some 1) (.agg [.nilSl])) []⟩,
               ⟨none, none, .eff (.store (some 1)) [.tmp 11, .tmp 107]⟩]
              .done
              (.alt [⟨some 11, none, .eff (.alloc (some 1) (.agg [.nilSl])) []⟩,
                ⟨some 106, none, .eff (.append (some 4) 56) [.tmp 103, .tmp 105]⟩,
                ⟨some 107, none, .rd (.build [.nilSl] [(0, 1)]) [.tmp 106]⟩,
                ⟨none, none, .eff (.store (some 1)) [.tmp 11, .tmp 107]⟩]
               .done
               .stop))
             (.alt [⟨some 11, none, .eff (.alloc (some 1) (.agg [.nilSl])) []⟩,
               ⟨some 103, none, .eff (.append (some 4) 56) [.tmp 98, .tmp 102]⟩,
               ⟨some 106, none, .eff (.append (some 4) 56) [.tmp 103, .tmp 105]⟩,
               ⟨some 107, none, .rd (.build [.nilSl] [(0, 1)]) [.tmp 106]⟩,
               ⟨none, none, .eff (.store (some 1)) [.tmp 11, .tmp 107]⟩]
              .done
              .stop))
            (.alt [⟨some 11, none, .eff (.alloc (some 1) (.agg [.nilSl])) []⟩]
             (.alt [⟨some 103, none, .eff (.append (some 4) 56) [.tmp 98, .tmp 102]⟩,
               ⟨some 105, none, .eff (.lit (some 4) false) [.tmp 104]⟩,
               ⟨some 106, none, .eff (.append (some 4) 56) [.tmp 103, .tmp 105]⟩,
               ⟨some 107, none, .rd (.build [.nilSl] [(0, 1)]) [.tmp 106]⟩,
               ⟨none, none, .eff (.store (some 1)) [.tmp 11, .tmp 107]⟩]
              .done
              (.alt [⟨some 105, none, .eff (.lit (some 4) false) [.tmp 104]⟩,
                ⟨some 103, none, .eff (.append (some 4) 56) [.tmp 98, .tmp 102]⟩,
                ⟨some 106, none, .eff (.append (some 4) 56) [.tmp 103, .tmp 105]⟩,
                ⟨some 107, none, .rd (.build [.nilSl] [(0, 1)]) [.tmp 106]⟩,
                ⟨none, none, .eff (.store (some 1)) [.tmp 11, .tmp 107]⟩]
               .done
               .stop))
             .stop)))
          (.alt [⟨some 105, none, .eff (.lit (some 4) false) [.tmp 104]⟩]
           (.alt [⟨some 98, none, .eff (.lit (some 4) true) []⟩]
            (.alt [⟨some 103, none, .eff (.append (some 4) 56) [.tmp 98, .tmp 102]⟩]
             (.alt [⟨some 106, none, .eff (.append (some 4) 56) [.tmp 103, .tmp 105]⟩,
               ⟨some 107, none, .rd (.build [.nilSl] [(0, 1)]) [.tmp 106]⟩,
               ⟨some 11, none, .eff (.alloc (some 1) (.agg [.nilSl])) []⟩,
               ⟨none, none, .eff (.store (some 1)) [.tmp 11, .tmp 107]⟩]
              .done
              (.alt [⟨some 11, none, .eff (.alloc (some 1) (.agg [.nilSl])) []⟩,
                ⟨some 106, none, .eff (.append (some 4) 56) [.tmp 103, .tmp 105]⟩,
                ⟨some 107, none, .rd (.build [.nilSl] [(0, 1)]) [.tmp 106]⟩,
                ⟨none, none, .eff (.store (some 1)) [.tmp 11, .tmp 107]⟩]
               .done
               .stop))
             (.alt [⟨some 11, none, .eff (.alloc (some 1) (.agg [.nilSl])) []⟩,
               ⟨some 103, none, .eff (.append (some 4) 56) [.tmp 98, .tmp 102]⟩,
               ⟨some 106, none, .eff (.append (some 4) 56) [.tmp 103, .tmp 105]⟩,
               ⟨some 107, none, .rd (.build [.nilSl] [(0, 1)]) [.tmp 106]⟩,
               ⟨none, none, .eff (.store (some 1)) [.tmp 11, .tmp 107]⟩]
              .done
              .stop))
            (.alt [⟨some 11, none, .eff (.alloc (some 1) (.agg [.nilSl])) []⟩,
              ⟨some 98, none, .eff (.lit (some 4) true) []⟩,
              ⟨some 103, none, .eff (.append (some 4) 56) [.tmp 98, .tmp 102]⟩,
              ⟨some 106, none, .eff (.append (some 4) 56) [.tmp 103, .tmp 105]⟩,
              ⟨some 107, none, .rd (.build [.nilSl] [(0, 1)]) [.tmp 106]⟩,
              ⟨none, none, .eff (.store (some 1)) [.tmp 11, .tmp 107]⟩]
             .done
             .stop))
           (.alt [⟨some 11, none, .eff (.alloc (some 1) (.agg [.nilSl])) []⟩]
            (.alt [⟨some 98, none, .eff (.lit (some 4) true) []⟩]
             (.alt [⟨some 103, none, .eff (.append (some 4) 56) [.tmp 98, .tmp 102]⟩,
               ⟨some 105, none, .eff (.lit (some 4) false) [.tmp 104]⟩,
               ⟨some 106, none, .eff (.append (some 4) 56) [.tmp 103, .tmp 105]⟩,
               ⟨some 107, none, .rd (.build [.nilSl] [(0, 1)]) [.tmp 106]⟩,
               ⟨none, none, .eff (.store (some 1)) [.tmp 11, .tmp 107]⟩]
              .done
              (.alt [⟨some 105, none, .eff (.lit (some 4) false) [.tmp 104]⟩,
                ⟨some 103, none, .eff (.append (some 4) 56) [.tmp 98, .tmp 102]⟩,
                ⟨some 106, none, .eff (.append (some 4) 56) [.tmp 103, .tmp 105]⟩,
                ⟨some 107, none, .rd (.build [.nilSl] [(0, 1)]) [.tmp 106]⟩,
                ⟨none, none, .eff (.store (some 1)) [.tmp 11, .tmp 107]⟩]
               .done
               .stop))
             (.alt [⟨some 105, none, .eff (.lit (some 4) false) [.tmp 104]⟩,
               ⟨some 98, none, .eff (.lit (some 4) true) []⟩,
               ⟨some 103, none, .eff (.append (some 4) 56) [.tmp 98, .tmp 102]⟩,
               ⟨some 106, none, .eff (.append (some 4) 56) [.tmp 103, .tmp 105]⟩,
               ⟨some 107, none, .rd (.build [.nilSl] [(0, 1)]) [.tmp 106]⟩,
               ⟨none, none, .eff (.store (some 1)) [.tmp 11, .tmp 107]⟩]
              .done
              .stop))
            .stop)))
         (.alt [⟨some 11, none, .eff (.alloc (some 1) (.agg [.nilSl])) []⟩]
          (.alt [⟨some 98, none, .eff (.lit (some 4) true) []⟩]
           (.alt [⟨some 103, none, .eff (.append (some 4) 56) [.tmp 98, .tmp 102]⟩,
             ⟨some 104, none, .rd (.load (some 4)) [.tmp 10]⟩,
             ⟨some 105, none, .eff (.lit (some 4) false) [.tmp 104]⟩,
             ⟨some 106, none, .eff (.append (some 4) 56) [.tmp 103, .tmp 105]⟩,
             ⟨some 107, none, .rd (.build [.nilSl] [(0, 1)]) [.tmp 106]⟩,
             ⟨none, none, .eff (.store (some 1)) [.tmp 11, .tmp 107]⟩]
            .done
            (.alt [⟨some 104, none, .rd (.load (some 4)) [.tmp 10]⟩]
             (.alt [⟨some 103, none, .eff (.append (some 4) 56) [.tmp 98, .tmp 102]⟩,
               ⟨some 105, none, .eff (.lit (some 4) false) [.tmp 104]⟩,
               ⟨some 106, none, .eff (.append (some 4) 56) [.tmp 103, .tmp 105]⟩,
               ⟨some 107, none, .rd (.build [.nilSl] [(0, 1)]) [.tmp 106]⟩,
               ⟨none, none, .eff (.store (some 1)) [.tmp 11, .tmp 107]⟩]
              .done
              (.alt [⟨some 105, none, .eff (.lit (some 4) false) [.tmp 104]⟩,
                ⟨some 103, none, .eff (.append (some 4) 56) [.tmp 98, .tmp 102]⟩,
                ⟨some 106, none, .eff (.append (some 4) 56) [.tmp 103, .tmp 105]⟩,
                ⟨some 107, none, .rd (.build [.nilSl] [(0, 1)]) [.tmp 106]⟩,
                ⟨none, none, .eff (.store (some 1)) [.tmp 11, .tmp 107]⟩]
               .done
               .stop))
             .stop))
           (.alt [⟨some 104, none, .rd (.load (some 4)) [.tmp 10]⟩]
            (.alt [⟨some 98, none, .eff (.lit (some 4) true) []⟩]
             (.alt [⟨some 103, none, .eff (.append (some 4) 56) [.tmp 98, .tmp 102]⟩,
               ⟨some 105, none, .eff (.lit (some 4) false) [.tmp 104]⟩,
               ⟨some 106, none, .eff (.append (some 4) 56) [.tmp 103, .tmp 105]⟩,
               ⟨some 107, none, .rd (.build [.nilSl] [(0, 1)]) [.tmp 106]⟩,
               ⟨none, none, .eff (.store (some 1)) [.tmp 11, .tmp 107]⟩]
              .done
              (.alt [⟨some 105, none, .eff (.lit (some 4) false) [.tmp 104]⟩,
                ⟨some 103, none, .eff (.append (some 4) 56) [.tmp 98, .tmp 102]⟩,
                ⟨some 106, none, .eff (.append (some 4) 56) [.tmp 103, .tmp 105]⟩,
                ⟨some 107, none, .rd (.build [.nilSl] [(0, 1)]) [.tmp 106]⟩,
                ⟨none, none, .eff (.store (some 1)) [.tmp 11, .tmp 107]⟩]
               .done
               .stop))
             (.alt [⟨some 105, none, .eff (.lit (some 4) false) [.tmp 104]⟩,
               ⟨some 98, none, .eff (.lit (some 4) true) []⟩,
               ⟨some 103, none, .eff (.append (some 4) 56) [.tmp 98, .tmp 102]⟩,
               ⟨some 106, none, .eff (.append (some 4) 56) [.tmp 103, .tmp 105]⟩,
               ⟨some 107, none, .rd (.build [.nilSl] [(0, 1)]) [.tmp 106]⟩,
               ⟨none, none, .eff (.store (some 1)) [.tmp 11, .tmp 107]⟩]
              .done
              .stop))
            .stop))
          .stop)))
       (.alt [⟨some 104, none, .rd (.load (some 4)) [.tmp 10]⟩]
        (.alt [⟨some 98, none, .eff (.lit (some 4) true) []⟩]
         (.alt [⟨some 100, none, .rd (.load none) [.tmp 99]⟩,
           ⟨some 102, none, .rd (.slc (some 4) false true false) [.tmp 100, .tmp 101]⟩]
          (.alt [⟨some 103, none, .eff (.append (some 4) 56) [.tmp 98, .tmp 102]⟩]
           (.alt [⟨some 105, none, .eff (.lit (some 4) false) [.tmp 104]⟩]
            (.alt [⟨some 106, none, .eff (.append (some 4) 56) [.tmp 103, .tmp 105]⟩,
              ⟨some 107, none, .rd (.build [.nilSl] [(0, 1)]) [.tmp 106]⟩,
              ⟨some 11, none, .eff (.alloc (some 1) (.agg [.nilSl])) []⟩,
              ⟨none, none, .eff (.store (some 1)) [.tmp 11, .tmp 107]⟩]
             .done
             (.alt [⟨some 11, none, .eff (.alloc (some 1) (.agg [.nilSl])) []⟩,
               ⟨some 106, none, .eff (.append (some 4) 56) [.tmp 103, .tmp 105]⟩,
               ⟨some 107, none, .rd (.build [.nilSl] [(0, 1)]) [.tmp 106]⟩,
               ⟨none, none, .eff (.store (some 1)) [.tmp 11, .tmp 107]⟩]
              .done
              .stop))
            (.alt [⟨some 11, none, .eff (.alloc (some 1) (.agg [.nilSl])) []⟩,
              ⟨some 105, none, .eff (.lit (some 4) false) [.tmp 104]⟩,
              ⟨some 106, none, .eff (.append (some 4) 56) [.tmp 103, .tmp 105]⟩,
              ⟨some 107, none, .rd (.build [.nilSl] [(0, 1)]) [.tmp 106]⟩,
              ⟨none, none, .eff (.store (some 1)) [.tmp 11, .tmp 107]⟩]
             .done
             .stop))
           (.alt [⟨some 105, none, .eff (.lit (some 4) false) [.tmp 104]⟩]
            (.alt [⟨some 103, none, .eff (.append (some 4) 56) [.tmp 98, .tmp 102]⟩]
             (.alt [⟨some 106, none, .eff (.append (some 4) 56) [.tmp 103, .tmp 105]⟩,
               ⟨some 107, none, .rd (.build [.nilSl] [(0, 1)]) [.tmp 106]⟩,
               ⟨some 11, none, .eff (.alloc (some 1) (.agg [.nilSl])) []⟩,
               ⟨none, none, .eff (.store (some 1)) [.tmp 11, .tmp 107]⟩]
              .done
              (.alt [⟨some 11, none, .eff (.alloc (some 1) (.agg [.nilSl])) []⟩,
                ⟨some 106, none, .eff (.append (some 4) 56) [.tmp 103, .tmp 105]⟩,
                ⟨some 107, none, .rd (.build [.nilSl] [(0, 1)]) [.tmp 106]⟩,
                ⟨none, none, .eff (.store (some 1)) [.tmp 11, .tmp 107]⟩]
               .done
               .stop))
             (.alt [⟨some 11, none, .eff (.alloc (some 1) (.agg [.nilSl])) []⟩,
               ⟨some 103, none, .eff (.append (some 4) 56) [.tmp 98, .tmp 102]⟩,
               ⟨some 106, none, .eff (.append (some 4) 56) [.tmp 103, .tmp 105]⟩,
               ⟨some 107, none, .rd (.build [.nilSl] [(0, 1)]) [.tmp 106]⟩,
               ⟨none, none, .eff (.store (some 1)) [.tmp 11, .tmp 107]⟩]
              .done
              .stop))
            (.alt [⟨some 11, none, .eff (.alloc (some 1) (.agg [.nilSl])) []⟩]
             (.alt [⟨some 103, none, .eff (.append (some 4) 56) [.tmp 98, .tmp 102]⟩,
               ⟨some 105, none, .eff (.lit (some 4) false) [.tmp 104]⟩,
               ⟨some 106, none, .eff (.append (some 4) 56) [.tmp 103, .tmp 105]⟩,
               ⟨some 107, none, .rd (.build [.nilSl] [(0, 1)]) [.tmp 106]⟩,
               ⟨none, none, .eff (.store (some 1)) [.tmp 11, .tmp 107]⟩]
              .done
              (.alt [⟨some 105, none, .eff (.lit (some 4) false) [.tmp 104]⟩,
                ⟨some 103, none, .eff (.append (some 4) 56) [.tmp 98, .tmp 102]⟩,
                ⟨some 106, none, .eff (.append (some 4) 56) [.tmp 103, .tmp 105]⟩,
                ⟨some 107, none, .rd (.build [.nilSl] [(0, 1)]) [.tmp 106]⟩,
                ⟨none, none, .eff (.store (some 1)) [.tmp 11, .tmp 107]⟩]
               .done
               .stop))
             .stop)))
          (.alt [⟨some 105, none, .eff (.lit (some 4) false) [.tmp 104]⟩]
           (.alt [⟨some 100, none, .rd (.load none) [.tmp 99]⟩,
             ⟨some 102, none, .rd (.slc (some 4) false true false) [.tmp 100, .tmp 101]⟩]
            (.alt [⟨some 103, none, .eff (.append (some 4) 56) [.tmp 98, .tmp 102]⟩]
             (.alt [⟨some 106, none, .eff (.append (some 4) 56) [.tmp 103, .tmp 105]⟩,
               ⟨some 107, none, .rd (.build [.nilSl] [(0, 1)]) [.tmp 106]⟩,
               ⟨some 11, none, .eff (.alloc (some 1) (.agg [.nilSl])) []⟩,
               ⟨none, none, .eff (.store (some 1)) [.tmp 11, .tmp 107]⟩]
              .done
              (.alt [⟨some 11, none, .eff (.alloc (some 1) (.agg [.nilSl])) []⟩,
                ⟨some 106, none, .eff (.append (some 4) 56) [.tmp 103, .tmp 105]⟩,
                ⟨some 107, none, .rd (.build [.nilSl] [(0, 1)]) [.tmp 106]⟩,
                ⟨none, none, .eff (.store (some 1)) [.tmp 11, .tmp 107]⟩]
               .done
               .stop))
             (.alt [⟨some 11, none, .eff (.alloc (some 1) (.agg [.nilSl])) []⟩,
               ⟨some 103, none, .eff (.append (some 4) 56) [.tmp 98, .tmp 102]⟩,
               ⟨some 106, none, .eff (.append (some 4) 56) [.tmp 103, .tmp 105]⟩,
               ⟨some 107, none, .rd (.build [.nilSl] [(0, 1)]) [.tmp 106]⟩,
               ⟨none, none, .eff (.store (some 1)) [.tmp 11, .tmp 107]⟩]
              .done
              .stop))
            (.alt [⟨some 11, none, .eff (.alloc (some 1) (.agg [.nilSl])) []⟩,
              ⟨some 100, none, .rd (.load none) [.tmp 99]⟩,
              ⟨some 102, none, .rd (.slc (some 4) false true false) [.tmp 100, .tmp 101]⟩,
              ⟨some 103, none, .eff (.append (some 4) 56) [.tmp 98, .tmp 102]⟩,
              ⟨some 106, none, .eff (.append (some 4) 56) [.tmp 103, .tmp 105]⟩,
              ⟨some 107, none, .rd (.build [.nilSl] [(0, 1)]) [.tmp 106]⟩,
              ⟨none, none, .eff (.store (some 1)) [.tmp 11, .tmp 107]⟩]
             .done
             .stop))
           (.alt [⟨some 11, none, .eff (.alloc (some 1) (.agg [.nilSl])) []⟩]
            (.alt [⟨some 100, none, .rd (.load none) [.tmp 99]⟩,
              ⟨some 102, none, .rd (.slc (some 4) false true false) [.tmp 100, .tmp 101]⟩]
             (.alt [⟨some 103, none, .eff (.append (some 4) 56) [.tmp 98, .tmp 102]⟩,
               ⟨some 105, none, .eff (.lit (some 4) false) [.tmp 104]⟩,
               ⟨some 106, none, .eff (.append (some 4) 56) [.tmp 103, .tmp 105]⟩,
               ⟨some 107, none, .rd (.build [.nilSl] [(0, 1)]) [.tmp 106]⟩,
               ⟨none, none, .eff (.store (some 1)) [.tmp 11, .tmp 107]⟩]
              .done
              (.alt [⟨some 105, none, .eff (.lit (some 4) false) [.tmp 104]⟩,
                ⟨some 103, none, .eff (.append (some 4) 56) [.tmp 98, .tmp 102]⟩,
                ⟨some 106, none, .eff (.append (some 4) 56) [.tmp 103, .tmp 105]⟩,
                ⟨some 107, none, .rd (.build [.nilSl] [(0, 1)]) [.tmp 106]⟩,
                ⟨none, none, .eff (.store (some 1)) [.tmp 11, .tmp 107]⟩]
               .done
               .stop))
             (.alt [⟨some 105, none, .eff (.lit (some 4) false) [.tmp 104]⟩,
               ⟨some 100, none, .rd (.load none) [.tmp 99]⟩,
               ⟨some 102, none, .rd (.slc (some 4) false true false) [.tmp 100, .tmp 101]⟩,
               ⟨some 103, none, .eff (.append (some 4) 56) [.tmp 98, .tmp 102]⟩,
               ⟨some 106, none, .eff (.append (some 4) 56) [.tmp 103, .tmp 105]⟩,
               ⟨some 107, none, .rd (.build [.nilSl] [(0, 1)]) [.tmp 106]⟩,
               ⟨none, none, .eff (.store (some 1)) [.tmp 11, .tmp 107]⟩]
              .done
              .stop))
            .stop)))
         (.alt [⟨some 100, none, .rd (.load none) [.tmp 99]⟩,
           ⟨some 102, none, .rd (.slc (some 4) false true false) [.tmp 100, .tmp 101]⟩]
          (.alt [⟨some 98, none, .eff (.lit (some 4) true) []⟩]
           (.alt [⟨some 103, none, .eff (.append (some 4) 56) [.tmp 98, .tmp 102]⟩]
            (.alt [⟨some 105, none, .eff (.lit (some 4) false) [.tmp 104]⟩]
             (.alt [⟨some 106, none, .eff (.append (some 4) 56) [.tmp 103, .tmp 105]⟩,
               ⟨some 107, none, .rd (.build [.nilSl] [(0, 1)]) [.tmp 106]⟩,
               ⟨some 11, none, .eff (.alloc (some 1) (.agg [.nilSl])) []⟩,
               ⟨none, none, .eff (.store (some 1)) [.tmp 11, .tmp 107]⟩]
              .done
              (.alt [⟨some 11, none, .eff (.alloc (some 1) (.agg [.nilSl])) []⟩,
                ⟨some 106, none, .eff (.append (some 4) 56) [.tmp 103, .tmp 105]⟩,
                ⟨some 107, none, .rd (.build [.nilSl] [(0, 1)]) [.tmp 106]⟩,
                ⟨none, none, .eff (.store (some 1)) [.tmp 11, .tmp 107]⟩]
               .done
               .stop))
             (.alt [⟨some 11, none, .eff (.alloc (some 1) (.agg [.nilSl])) []⟩,
               ⟨some 105, none, .eff (.lit (some 4) false) [.tmp 104]⟩,
               ⟨some 106, none, .eff (.append (some 4) 56) [.tmp 103, .tmp 105]⟩,
               ⟨some 107, none, .rd (.build [.nilSl] [(0, 1)]) [.tmp 106]⟩,
               ⟨none, none, .eff (.store (some 1)) [.tmp 11, .tmp 107]⟩]
              .done
              .stop))
            (.alt [⟨some 105, none, .eff (.lit (some 4) false) [.tmp 104]⟩]
             (.alt [⟨some 103, none, .eff (.append (some 4) 56) [.tmp 98, .tmp 102]⟩]
              (.alt [⟨some 106, none, .eff (.append (some 4) 56) [.tmp 103, .tmp 105]⟩,
                ⟨some 107, none, .rd (.build [.nilSl] [(0, 1)]) [.tmp 106]⟩,
                ⟨some 11, none, .eff (.alloc (some 1) (.agg [.nilSl])) []⟩,
                ⟨none, none, .eff (.store (some 1)) [.tmp 11, .tmp 107]⟩]
               .done
               (.alt [⟨some 11, none, .eff (.alloc (some 1) (.agg [.nilSl])) []⟩,
                 ⟨some 106, none, .eff (.append (some 4) 56) [.tmp 103, .tmp 105]⟩,
                 ⟨some 107, none, .rd (.build [.nilSl] [(0, 1)]) [.tmp 106]⟩,
                 ⟨none, none, .eff (.store (some 1)) [.tmp 11, .tmp 107]⟩]
                .done
                .stop))
              (.alt [⟨some 11, none, .eff (.alloc (some 1) (.agg [.nilSl])) []⟩,
                ⟨some 103, none, .eff (.append (some 4) 56) [.tmp 98, .tmp 102]⟩,
                ⟨some 106, none, .eff (.append (some 4) 56) [.tmp 103, .tmp 105]⟩,
                ⟨some 107, none, .rd (.build [.nilSl] [(0, 1)]) [.tmp 106]⟩,
                ⟨none, none, .eff (.store (some 1)) [.tmp 11, .tmp 107]⟩]
               .done
               .stop))
             (.alt [⟨some 11, none, .eff (.alloc (some 1) (.agg [.nilSl])) []⟩]
              (.alt [⟨some 103, none, .eff (.append (some 4) 56) [.tmp 98, .tmp 102]⟩,
                ⟨some 105, none, .eff (.lit (some 4) false) [.tmp 104]⟩,
                ⟨some 106, none, .eff (.append (some 4) 56) [.tmp 103, .tmp 105]⟩,
                ⟨some 107, none, .rd (.build [.nilSl] [(0, 1)]) [.tmp 106]⟩,
                ⟨none, none, .eff (.store (some 1)) [.tmp 11, .tmp 107]⟩]
               .done
               (.alt [⟨some 105, none, .eff (.lit (some 4) false) [.tmp 104]⟩,
                 ⟨some 103, none, .eff (.append (some 4) 56) [.tmp 98, .tmp 102]⟩,
                 ⟨some 106, none, .eff (.append (some 4) 56) [.tmp 103, .tmp 105]⟩,
                 ⟨some 107, none, .rd (.build [.nilSl] [(0, 1)]) [.tmp 106]⟩,
                 ⟨none, none, .eff (.store (some 1)) [.tmp 11, .tmp 107]⟩]
                .done
                .stop))
              .stop)))
           (.alt [⟨some 105, none, .eff (.lit (some 4) false) [.tmp 104]⟩]
            (.alt [⟨some 98, none, .eff (.lit (some 4) true) []⟩]
             (.alt [⟨some 103, none, .eff (.append (some 4) 56) [.tmp 98, .tmp 102]⟩]
              (.alt [⟨some 106, none, .eff (.append (some 4) 56) [.tmp 103, .tmp 105]⟩,
                ⟨some 107, none, .rd (.build [.nilSl] [(0, 1)]) [.tmp 106]⟩,
                ⟨some 11, none, .eff (.alloc (some 1) (.agg [.nilSl])) []⟩,
                ⟨none, none, .eff (.store (some 1)) [.tmp 11, .tmp 107]⟩]
               .done
               (.alt [⟨some 11, none, .eff (.alloc (some 1) (.agg [.nilSl])) []⟩,
                 ⟨some 106, none, .eff (.append (some 4) 56) [.tmp 103, .tmp 105]⟩,
                 ⟨some 107, none, .rd (.build [.nilSl] [(0, 1)]) [.tmp 106]⟩,
                 ⟨none, none, .eff (.store (some 1)) [.tmp 11, .tmp 107]⟩]
                .done
                .stop))
              (.alt [⟨some 11, none, .eff (.alloc (some 1) (.agg [.nilSl])) []⟩,
                ⟨some 103, none, .eff (.append (some 4) 56) [.tmp 98, .tmp 102]⟩,
                ⟨some 106, none, .eff (.append (some 4) 56) [.tmp 103, .tmp 105]⟩,
                ⟨some 107, none, .rd (.build [.nilSl] [(0, 1)]) [.tmp 106]⟩,
                ⟨none, none, .eff (.store (some 1)) [.tmp 11, .tmp 107]⟩]
               .done
               .stop))
             (.alt [⟨some 11, none, .eff (.alloc (some 1) (.agg [.nilSl])) []⟩,
               ⟨some 98, none, .eff (.lit (some 4) true) []⟩,
               ⟨some 103, none, .eff (.append (some 4) 56) [.tmp 98, .tmp 102]⟩,
               ⟨some 106, none, .eff (.append (some 4) 56) [.tmp 103, .tmp 105]⟩,
               ⟨some 107, none, .rd (.build [.nilSl] [(0, 1)]) [.tmp 106]⟩,
               ⟨none, none, .eff (.store (some 1)) [.tmp 11, .tmp 107]⟩]
              .done
              .stop))
            (.alt [⟨some 11, none, .eff (.alloc (some 1) (.agg [.nilSl])) []⟩]
             (.alt [⟨some 98, none, .eff (.lit (some 4) true) []⟩]
              (.alt [⟨some 103, none, .eff (.append (some 4) 56) [.tmp 98, .tmp 102]⟩,
                ⟨some 105, none, .eff (.lit (some 4) false) [.tmp 104]⟩,
                ⟨some 106, none, .eff (.append (some 4) 56) [.tmp 103, .tmp 105]⟩,
                ⟨some 107, none, .rd (.build [.nilSl] [(0, 1)]) [.tmp 106]⟩,
                ⟨none, none, .eff (.store (some 1)) [.tmp 11, .tmp 107]⟩]
               .done
               (.alt [⟨some 105, none, .eff (.lit (some 4) false) [.tmp 104]⟩,
                 ⟨some 103, none, .eff (.append (some 4) 56) [.tmp 98, .tmp 102]⟩,
                 ⟨some 106, none, .eff (.append (some 4) 56) [.tmp 103, .tmp 105]⟩,
                 ⟨some 107, none, .rd (.build [.nilSl] [(0, 1)]) [.tmp 106]⟩,
                 ⟨none, none, .eff (.store (some 1)) [.tmp 11, .tmp 107]⟩]
                .done
                .stop))
              (.alt [⟨some 105, none, .eff (.lit (some 4) false) [.tmp 104]⟩,
                ⟨some 98, none, .eff (.lit (some 4) true) []⟩,
                ⟨some 103, none, .eff (.append (some 4) 56) [.tmp 98, .tmp 102]⟩,
                ⟨some 106, none, .eff (.append (some 4) 56) [.tmp 103, .tmp 105]⟩,
                ⟨some 107, none, .rd (.build [.nilSl] [(0, 1)]) [.tmp 106]⟩,
                ⟨none, none, .eff (.store (some 1)) [.tmp 11, .tmp 107]⟩]
               .done
               .stop))
             .stop)))
          (.alt [⟨some 105, none, .eff (.lit (some 4) false) [.tmp 104]⟩]
           (.alt [⟨some 98, none, .eff (.lit (some 4) true) []⟩]
            (.alt [⟨some 100, none, .rd (.load none) [.tmp 99]⟩,
              ⟨some 102, none, .rd (.slc (some 4) false true false) [.tmp 100, .tmp 101]⟩]
             (.alt [⟨some 103, none, .eff (.append (some 4) 56) [.tmp 98, .tmp 102]⟩]
              (.alt [⟨some 106, none, .eff (.append (some 4) 56) [.tmp 103, .tmp 105]⟩,
                ⟨some 107, none, .rd (.build [.nilSl] [(0, 1)]) [.tmp 106]⟩,
                ⟨some 11, none, .eff (.alloc (some 1) (.agg [.nilSl])) []⟩,
                ⟨none, none, .eff (.store (some 1)) [.tmp 11, .tmp 107]⟩]
               .done
               (.alt [⟨some 11, none, .eff (.alloc (some 1) (.agg [.nilSl])) []⟩,
                 ⟨some 106, none, .eff (.append (some 4) 56) [.tmp 103, .tmp 105]⟩,
                 ⟨some 107, none, .rd (.build [.nilSl] [(0, 1)]) [.tmp 106]⟩,
                 ⟨none, none, .eff (.store (some 1)) [.tmp 11, .tmp 107]⟩]
                .done
                .stop))
              (.alt [⟨some 11, none, .eff (.alloc (some 1) (.agg [.nilSl])) []⟩,
                ⟨some 103, none, .eff (.append (some 4) 56) [.tmp 98, .tmp 102]⟩,
                ⟨some 106, none, .eff (.append (some 4) 56) [.tmp 103, .tmp 105]⟩,
                ⟨some 107, none, .rd (.build [.nilSl] [(0, 1)]) [.tmp 106]⟩,
                ⟨none, none, .eff (.store (some 1)) [.tmp 11, .tmp 107]⟩]
               .done
               .stop))
             (.alt [⟨some 11, none, .eff (.alloc (some 1) (.agg [.nilSl])) []⟩,
               ⟨some 100, none, .rd (.load none) [.tmp 99]⟩,
               ⟨some 102, none, .rd (.slc (some 4) false true false) [.tmp 100, .tmp 101]⟩,
               ⟨some 103, none, .eff (.append (some 4) 56) [.tmp 98, .tmp 102]⟩,
               ⟨some 106, none, .eff (.append (some 4) 56) [.tmp 103, .tmp 105]⟩,
               ⟨some 107, none, .rd (.build [.nilSl] [(0, 1)]) [.tmp 106]⟩,
               ⟨none, none, .eff (.store (some 1)) [.tmp 11, .tmp 107]⟩]
              .done
              .stop))
            (.alt [⟨some 100, none, .rd (.load none) [.tmp 99]⟩,
              ⟨some 102, none, .rd (.slc (some 4) false true false) [.tmp 100, .tmp 101]⟩]
             (.alt [⟨some 98, none, .eff (.lit (some 4) true) []⟩]
              (.alt [⟨some 103, none, .eff (.append (some 4) 56) [.tmp 98, .tmp 102]⟩]
               (.alt [⟨some 106, none, .eff (.append (some 4) 56) [.tmp 103, .tmp 105]⟩,
                 ⟨some 107, none, .rd (.build [.nilSl] [(0, 1)]) [.tmp 106]⟩,
                 ⟨some 11, none, .eff (.alloc (some 1) (.agg [.nilSl])) []⟩,
                 ⟨none, none, .eff (.store (some 1)) [.tmp 11, .tmp 107]⟩]
                .done
                (.alt [⟨some 11, none, .eff (.alloc (some 1) (.agg [.nilSl])) []⟩,
                  ⟨some 106, none, .eff (.append (some 4) 56) [.tmp 103, .tmp 105]⟩,
                  ⟨some 107, none, .rd (.build [.nilSl] [(0, 1)]) [.tmp 106]⟩,
                  ⟨none, none, .eff (.store (some 1)) [.tmp 11, .tmp 107]⟩]
                 .done
                 .stop))
               (.alt [⟨some 11, none, .eff (.alloc (some 1) (.agg [.nilSl])) []⟩,
                 ⟨some 103, none, .eff (.append (some 4) 56) [.tmp 98, .tmp 102]⟩,
                 ⟨some 106, none, .eff (.append (some 4) 56) [.tmp 103, .tmp 105]⟩,
                 ⟨some 107, none, .rd (.build [.nilSl] [(0, 1)]) [.tmp 106]⟩,
                 ⟨none, none, .eff (.store (some 1)) [.tmp 11, .tmp 107]⟩]
                .done
                .stop))
              (.alt [⟨some 11, none, .eff (.alloc (some 1) (.agg [.nilSl])) []⟩,
                ⟨some 98, none, .eff (.lit (some 4) true) []⟩,
                ⟨some 103, none, .eff (.append (some 4) 56) [.tmp 98, .tmp 102]⟩,
                ⟨some 106, none, .eff (.append (some 4) 56) [.tmp 103, .tmp 105]⟩,
                ⟨some 107, none, .rd (.build [.nilSl] [(0, 1)]) [.tmp 106]⟩,
                ⟨none, none, .eff (.store (some 1)) [.tmp 11, .tmp 107]⟩]
               .done
               .stop))
             (.alt [⟨some 11, none, .eff (.alloc (some 1) (.agg [.nilSl])) []⟩]
              (.alt [⟨some 98, none, .eff (.lit (some 4) true) []⟩,
                ⟨some 100, none, .rd (.load none) [.tmp 99]⟩,
                ⟨some 102, none, .rd (.slc (some 4) false true false) [.tmp 100, .tmp 101]⟩,
                ⟨some 103, none, .eff (.append (some 4) 56) [.tmp 98, .tmp 102]⟩,
                ⟨some 106, none, .eff (.append (some 4) 56) [.tmp 103, .tmp 105]⟩,
                ⟨some 107, none, .rd (.build [.nilSl] [(0, 1)]) [.tmp 106]⟩,
                ⟨none, none, .eff (.store (some 1)) [.tmp 11, .tmp 107]⟩]
               .done
               (.alt [⟨some 100, none, .rd (.load none) [.tmp 99]⟩,
                 ⟨some 102, none, .rd (.slc (some 4) false true false) [.tmp 100, .tmp 101]⟩,
                 ⟨some 98, none, .eff (.lit (some 4) true) []⟩,
                 ⟨some 103, none, .eff (.append (some 4) 56) [.tmp 98, .tmp 102]⟩,
                 ⟨some 106, none, .eff (.append (some 4) 56) [.tmp 103, .tmp 105]⟩,
                 ⟨some 107, none, .rd (.build [.nilSl] [(0, 1)]) [.tmp 106]⟩,
                 ⟨none, none, .eff (.store (some 1)) [.tmp 11, .tmp 107]⟩]
                .done
                .stop))
              .stop)))
           (.alt [⟨some 11, none, .eff (.alloc (some 1) (.agg [.nilSl])) []⟩]
            (.alt [⟨some 98, none, .eff (.lit (some 4) true) []⟩]
             (.alt [⟨some 100, none, .rd (.load none) [.tmp 99]⟩,
               ⟨some 102, none, .rd (.slc (some 4) false true false) [.tmp 100, .tmp 101]⟩]
              (.alt [⟨some 103, none, .eff (.append (some 4) 56) [.tmp 98, .tmp 102]⟩,
                ⟨some 105, none, .eff (.lit (some 4) false) [.tmp 104]⟩,
                ⟨some 106, none, .eff (.append (some 4) 56) [.tmp 103, .tmp 105]⟩,
                ⟨some 107, none, .rd (.build [.nilSl] [(0, 1)]) [.tmp 106]⟩,
                ⟨none, none, .eff (.store (some 1)) [.tmp 11, .tmp 107]⟩]
               .done
               (.alt [⟨some 105, none, .eff (.lit (some 4) false) [.tmp 104]⟩,
                 ⟨some 103, none, .eff (.append (some 4) 56) [.tmp 98, .tmp 102]⟩,
                 ⟨some 106, none, .eff (.append (some 4) 56) [.tmp 103, .tmp 105]⟩,
                 ⟨some 107, none, .rd (.build [.nilSl] [(0, 1)]) [.tmp 106]⟩,
                 ⟨none, none, .eff (.store (some 1)) [.tmp 11, .tmp 107]⟩]
                .done
                .stop))
              (.alt [⟨some 105, none, .eff (.lit (some 4) false) [.tmp 104]⟩,
                ⟨some 100, none, .rd (.load none) [.tmp 99]⟩,
                ⟨some 102, none, .rd (.slc (some 4) false true false) [.tmp 100, .tmp 101]⟩,
                ⟨some 103, none, .eff (.append (some 4) 56) [.tmp 98, .tmp 102]⟩,
                ⟨some 106, none, .eff (.append (some 4) 56) [.tmp 103, .tmp 105]⟩,
                ⟨some 107, none, .rd (.build [.nilSl] [(0, 1)]) [.tmp 106]⟩,
                ⟨none, none, .eff (.store (some 1)) [.tmp 11, .tmp 107]⟩]
               .done
               .stop))
             (.alt [⟨some 100, none, .rd (.load none) [.tmp 99]⟩,
               ⟨some 102, none, .rd (.slc (some 4) false true false) [.tmp 100, .tmp 101]⟩]
              (.alt [⟨some 98, none, .eff (.lit (some 4) true) []⟩]
               (.alt [⟨some 103, none, .eff (.append (some 4) 56) [.tmp 98, .tmp 102]⟩,
                 ⟨some 105, none, .eff (.lit (some 4) false) [.tmp 104]⟩,
                 ⟨some 106, none, .eff (.append (some 4) 56) [.tmp 103, .tmp 105]⟩,
                 ⟨some 107, none, .rd (.build [.nilSl] [(0, 1)]) [.tmp 106]⟩,
                 ⟨none, none, .eff (.store (some 1)) [.tmp 11, .tmp 107]⟩]
                .done
                (.alt [⟨some 105, none, .eff (.lit (some 4) false) [.tmp 104]⟩,
                  ⟨some 103, none, .eff (.append (some 4) 56) [.tmp 98, .tmp 102]⟩,
                  ⟨some 106, none, .eff (.append (some 4) 56) [.tmp 103, .tmp 105]⟩,
                  ⟨some 107, none, .rd (.build [.nilSl] [(0, 1)]) [.tmp 106]⟩,
                  ⟨none, none, .eff (.store (some 1)) [.tmp 11, .tmp 107]⟩]
                 .done
                 .stop))
               (.alt [⟨some 105, none, .eff (.lit (some 4) false) [.tmp 104]⟩,
                 ⟨some 98, none, .eff (.lit (some 4) true) []⟩,
                 ⟨some 103, none, .eff (.append (some 4) 56) [.tmp 98, .tmp 102]⟩,
                 ⟨some 106, none, .eff (.append (some 4) 56) [.tmp 103, .tmp 105]⟩,
                 ⟨some 107, none, .rd (.build [.nilSl] [(0, 1)]) [.tmp 106]⟩,
                 ⟨none, none, .eff (.store (some 1)) [.tmp 11, .tmp 107]⟩]
                .done
                .stop))
              (.alt [⟨some 105, none, .eff (.lit (some 4) false) [.tmp 104]⟩]
               (.alt [⟨some 98, none, .eff (.lit (some 4) true) []⟩,
                 ⟨some 100, none, .rd (.load none) [.tmp 99]⟩,
                 ⟨some 102, none, .rd (.slc (some 4) false true false) [.tmp 100, .tmp 101]⟩,
                 ⟨some 103, none, .eff (.append (some 4) 56) [.tmp 98, .tmp 102]⟩,
                 ⟨some 106, none, .eff (.append (some 4) 56) [.tmp 103, .tmp 105]⟩,
                 ⟨some 107, none, .rd (.build [.nilSl] [(0, 1)]) [.tmp 106]⟩,
                 ⟨none, none, .eff (.store (some 1)) [.tmp 11, .tmp 107]⟩]
                .done
                (.alt [⟨some 100, none, .rd (.load none) [.tmp 99]⟩,
                  ⟨some 102, none, .rd (.slc (some 4) false true false) [.tmp 100, .tmp 101]⟩,
                  ⟨some 98, none, .eff (.lit (some 4) true) []⟩,
                  ⟨some 103, none, .eff (.append (some 4) 56) [.tmp 98, .tmp 102]⟩,
                  ⟨some 106, none, .eff (.append (some 4) 56) [.tmp 103, .tmp 105]⟩,
                  ⟨some 107, none, .rd (.build [.nilSl] [(0, 1)]) [.tmp 106]⟩,
                  ⟨none, none, .eff (.store (some 1)) [.tmp 11, .tmp 107]⟩]
                 .done
                 .stop))
               .stop)))
            .stop))))
        (.alt [⟨some 11, none, .eff (.alloc (some 1) (.agg [.nilSl])) []⟩]
         (.alt [⟨some 98, none, .eff (.lit (some 4) true) []⟩]
          (.alt [⟨some 100, none, .rd (.load none) [.tmp 99]⟩,
            ⟨some 102, none, .rd (.slc (some 4) false true false) [.tmp 100, .tmp 101]⟩]
           (.alt [⟨some 103, none, .eff (.append (some 4) 56) [.tmp 98, .tmp 102]⟩,
             ⟨some 104, none, .rd (.load (some 4)) [.tmp 10]⟩,
             ⟨some 105, none, .eff (.lit (some 4) false) [.tmp 104]⟩,
             ⟨some 106, none, .eff (.append (some 4) 56) [.tmp 103, .tmp 105]⟩,
             ⟨some 107, none, .rd (.build [.nilSl] [(0, 1)]) [.tmp 106]⟩,
             ⟨none, none, .eff (.store (some 1)) [.tmp 11, .tmp 107]⟩]
            .done
            (.alt [⟨some 104, none, .rd (.load (some 4)) [.tmp 10]⟩]
             (.alt [⟨some 103, none, .eff (.append (some 4) 56) [.tmp 98, .tmp 102]⟩,
               ⟨some 105, none, .eff (.lit (some 4) false) [.tmp 104]⟩,
               ⟨some 106, none, .eff (.append (some 4) 56) [.tmp 103, .tmp 105]⟩,
               ⟨some 107, none, .rd (.build [.nilSl] [(0, 1)]) [.tmp 106]⟩,
               ⟨none, none, .eff (.store (some 1)) [.tmp 11, .tmp 107]⟩]
              .done
              (.alt [⟨some 105, none, .eff (.lit (some 4) false) [.tmp 104]⟩,
                ⟨some 103, none, .eff (.append (some 4) 56) [.tmp 98, .tmp 102]⟩,
                ⟨some 106, none, .eff (.append (some 4) 56) [.tmp 103, .tmp 105]⟩,
                ⟨some 107, none, .rd (.build [.nilSl] [(0, 1)]) [.tmp 106]⟩,
                ⟨none, none, .eff (.store (some 1)) [.tmp 11, .tmp 107]⟩]
               .done
               .stop))
             .stop))
           (.alt [⟨some 104, none, .rd (.load (some 4)) [.tmp 10]⟩]
            (.alt [⟨some 100, none, .rd (.load none) [.tmp 99]⟩,
              ⟨some 102, none, .rd (.slc (some 4) false true false) [.tmp 100, .tmp 101]⟩]
             (.alt [⟨some 103, none, .eff (.append (some 4) 56) [.tmp 98, .tmp 102]⟩,
               ⟨some 105, none, .eff (.lit (some 4) false) [.tmp 104]⟩,
               ⟨some 106, none, .eff (.append (some 4) 56) [.tmp 103, .tmp 105]⟩,
               ⟨some 107, none, .rd (.build [.nilSl] [(0, 1)]) [.tmp 106]⟩,
               ⟨none, none, .eff (.store (some 1)) [.tmp 11, .tmp 107]⟩]
              .done
              (.alt [⟨some 105, none, .eff (.lit (some 4) false) [.tmp 104]⟩,
                ⟨some 103, none, .eff (.append (some 4) 56) [.tmp 98, .tmp 102]⟩,
                ⟨some 106, none, .eff (.append (some 4) 56) [.tmp 103, .tmp 105]⟩,
                ⟨some 107, none, .rd (.build [.nilSl] [(0, 1)]) [.tmp 106]⟩,
                ⟨none, none, .eff (.store (some 1)) [.tmp 11, .tmp 107]⟩]
               .done
               .stop))
             (.alt [⟨some 105, none, .eff (.lit (some 4) false) [.tmp 104]⟩,
               ⟨some 100, none, .rd (.load none) [.tmp 99]⟩,
               ⟨some 102, none, .rd (.slc (some 4) false true false) [.tmp 100, .tmp 101]⟩,
               ⟨some 103, none, .eff (.append (some 4) 56) [.tmp 98, .tmp 102]⟩,
               ⟨some 106, none, .eff (.append (some 4) 56) [.tmp 103, .tmp 105]⟩,
               ⟨some 107, none, .rd (.build [.nilSl] [(0, 1)]) [.tmp 106]⟩,
               ⟨none, none, .eff (.store (some 1)) [.tmp 11, .tmp 107]⟩]
              .done
              .stop))
            .stop))
          (.alt [⟨some 100, none, .rd (.load none) [.tmp 99]⟩,
            ⟨some 102, none, .rd (.slc (some 4) false true false) [.tmp 100, .tmp 101]⟩]
           (.alt [⟨some 98, none, .eff (.lit (some 4) true) []⟩]
            (.alt [⟨some 103, none, .eff (.append (some 4) 56) [.tmp 98, .tmp 102]⟩,
              ⟨some 104, none, .rd (.load (some 4)) [.tmp 10]⟩,
              ⟨some 105, none, .eff (.lit (some 4) false) [.tmp 104]⟩,
              ⟨some 106, none, .eff (.append (some 4) 56) [.tmp 103, .tmp 105]⟩,
              ⟨some 107, none, .rd (.build [.nilSl] [(0, 1)]) [.tmp 106]⟩,
              ⟨none, none, .eff (.store (some 1)) [.tmp 11, .tmp 107]⟩]
             .done
             (.alt [⟨some 104, none, .rd (.load (some 4)) [.tmp 10]⟩]
              (.alt [⟨some 103, none, .eff (.append (some 4) 56) [.tmp 98, .tmp 102]⟩,
                ⟨some 105, none, .eff (.lit (some 4) false) [.tmp 104]⟩,
                ⟨some 106, none, .eff (.append (some 4) 56) [.tmp 103, .tmp 105]⟩,
                ⟨some 107, none, .rd (.build [.nilSl] [(0, 1)]) [.tmp 106]⟩,
                ⟨none, none, .eff (.store (some 1)) [.tmp 11, .tmp 107]⟩]
               .done
               (.alt [⟨some 105, none, .eff (.lit (some 4) false) [.tmp 104]⟩,
                 ⟨some 103, none, .eff (.append (some 4) 56) [.tmp 98, .tmp 102]⟩,
                 ⟨some 106, none, .eff (.append (some 4) 56) [.tmp 103, .tmp 105]⟩,
                 ⟨some 107, none, .rd (.build [.nilSl] [(0, 1)]) [.tmp 106]⟩,
                 ⟨none, none, .eff (.store (some 1)) [.tmp 11, .tmp 107]⟩]
                .done
                .stop))
              .stop))
            (.alt [⟨some 104, none, .rd (.load (some 4)) [.tmp 10]⟩]
             (.alt [⟨some 98, none, .eff (.lit (some 4) true) []⟩]
              (.alt [⟨some 103, none, .eff (.append (some 4) 56) [.tmp 98, .tmp 102]⟩,
                ⟨some 105, none, .eff (.lit (some 4) false) [.tmp 104]⟩,
                ⟨some 106, none, .eff (.append (some 4) 56) [.tmp 103, .tmp 105]⟩,
                ⟨some 107, none, .rd (.build [.nilSl] [(0, 1)]) [.tmp 106]⟩,
                ⟨none, none, .eff (.store (some 1)) [.tmp 11, .tmp 107]⟩]
               .done
               (.alt [⟨some 105, none, .eff (.lit (some 4) false) [.tmp 104]⟩,
                 ⟨some 103, none, .eff (.append (some 4) 56) [.tmp 98, .tmp 102]⟩,
                 ⟨some 106, none, .eff (.append (some 4) 56) [.tmp 103, .tmp 105]⟩,
                 ⟨some 107, none, .rd (.build [.nilSl] [(0, 1)]) [.tmp 106]⟩,
                 ⟨none, none, .eff (.store (some 1)) [.tmp 11, .tmp 107]⟩]
                .done
                .stop))
              (.alt [⟨some 105, none, .eff (.lit (some 4) false) [.tmp 104]⟩,
                ⟨some 98, none, .eff (.lit (some 4) true) []⟩,
                ⟨some 103, none, .eff (.append (some 4) 56) [.tmp 98, .tmp 102]⟩,
                ⟨some 106, none, .eff (.append (some 4) 56) [.tmp 103, .tmp 105]⟩,
                ⟨some 107, none, .rd (.build [.nilSl] [(0, 1)]) [.tmp 106]⟩,
                ⟨none, none, .eff (.store (some 1)) [.tmp 11, .tmp 107]⟩]
               .done
               .stop))
             .stop))
           (.alt [⟨some 104, none, .rd (.load (some 4)) [.tmp 10]⟩]
            (.alt [⟨some 98, none, .eff (.lit (some 4) true) []⟩]
             (.alt [⟨some 100, none, .rd (.load none) [.tmp 99]⟩,
               ⟨some 102, none, .rd (.slc (some 4) false true false) [.tmp 100, .tmp 101]⟩]
              (.alt [⟨some 103, none, .eff (.append (some 4) 56) [.tmp 98, .tmp 102]⟩,
                ⟨some 105, none, .eff (.lit (some 4) false) [.tmp 104]⟩,
                ⟨some 106, none, .eff (.append (some 4) 56) [.tmp 103, .tmp 105]⟩,
                ⟨some 107, none, .rd (.build [.nilSl] [(0, 1)]) [.tmp 106]⟩,
                ⟨none, none, .eff (.store (some 1)) [.tmp 11, .tmp 107]⟩]
               .done
               (.alt [⟨some 105, none, .eff (.lit (some 4) false) [.tmp 104]⟩,
                 ⟨some 103, none, .eff (.append (some 4) 56) [.tmp 98, .tmp 102]⟩,
                 ⟨some 106, none, .eff (.append (some 4) 56) [.tmp 103, .tmp 105]⟩,
                 ⟨some 107, none, .rd (.build [.nilSl] [(0, 1)]) [.tmp 106]⟩,
                 ⟨none, none, .eff (.store (some 1)) [.tmp 11, .tmp 107]⟩]
                .done
                .stop))
              (.alt [⟨some 105, none, .eff (.lit (some 4) false) [.tmp 104]⟩,
                ⟨some 100, none, .rd (.load none) [.tmp 99]⟩,
                ⟨some 102, none, .rd (.slc (some 4) false true false) [.tmp 100, .tmp 101]⟩,
                ⟨some 103, none, .eff (.append (some 4) 56) [.tmp 98, .tmp 102]⟩,
                ⟨some 106, none, .eff (.append (some 4) 56) [.tmp 103, .tmp 105]⟩,
                ⟨some 107, none, .rd (.build [.nilSl] [(0, 1)]) [.tmp 106]⟩,
                ⟨none, none, .eff (.store (some 1)) [.tmp 11, .tmp 107]⟩]
               .done
               .stop))
             (.alt [⟨some 100, none, .rd (.load none) [.tmp 99]⟩,
               ⟨some 102, none, .rd (.slc (some 4) false true false) [.tmp 100, .tmp 101]⟩]
              (.alt [⟨some 98, none, .eff (.lit (some 4) true) []⟩]
               (.alt [⟨some 103, none, .eff (.append (some 4) 56) [.tmp 98, .tmp 102]⟩,
                 ⟨some 105, none, .eff (.lit (some 4) false) [.tmp 104]⟩,
                 ⟨some 106, none, .eff (.append (some 4) 56) [.tmp 103, .tmp 105]⟩,
                 ⟨some 107, none, .rd (.build [.nilSl] [(0, 1)]) [.tmp 106]⟩,
                 ⟨none, none, .eff (.store (some 1)) [.tmp 11, .tmp 107]⟩]
                .done
                (.alt [⟨some 105, none, .eff (.lit (some 4) false) [.tmp 104]⟩,
                  ⟨some 103, none, .eff (.append (some 4) 56) [.tmp 98, .tmp 102]⟩,
                  ⟨some 106, none, .eff (.append (some 4) 56) [.tmp 103, .tmp 105]⟩,
                  ⟨some 107, none, .rd (.build [.nilSl] [(0, 1)]) [.tmp 106]⟩,
                  ⟨none, none, .eff (.store (some 1)) [.tmp 11, .tmp 107]⟩]
                 .done
                 .stop))
               (.alt [⟨some 105, none, .eff (.lit (some 4) false) [.tmp 104]⟩,
                 ⟨some 98, none, .eff (.lit (some 4) true) []⟩,
                 ⟨some 103, none, .eff (.append (some 4) 56) [.tmp 98, .tmp 102]⟩,
                 ⟨some 106, none, .eff (.append (some 4) 56) [.tmp 103, .tmp 105]⟩,
                 ⟨some 107, none, .rd (.build [.nilSl] [(0, 1)]) [.tmp 106]⟩,
                 ⟨none, none, .eff (.store (some 1)) [.tmp 11, .tmp 107]⟩]
                .done
                .stop))
              (.alt [⟨some 105, none, .eff (.lit (some 4) false) [.tmp 104]⟩]
               (.alt [⟨some 98, none, .eff (.lit (some 4) true) []⟩,
                 ⟨some 100, none, .rd (.load none) [.tmp 99]⟩,
                 ⟨some 102, none, .rd (.slc (some 4) false true false) [.tmp 100, .tmp 101]⟩,
                 ⟨some 103, none, .eff (.append (some 4) 56) [.tmp 98, .tmp 102]⟩,
                 ⟨some 106, none, .eff (.append (some 4) 56) [.tmp 103, .tmp 105]⟩,
                 ⟨some 107, none, .rd (.build [.nilSl] [(0, 1)]) [.tmp 106]⟩,
                 ⟨none, none, .eff (.store (some 1)) [.tmp 11, .tmp 107]⟩]
                .done
                (.alt [⟨some 100, none, .rd (.load none) [.tmp 99]⟩,
                  ⟨some 102, none, .rd (.slc (some 4) false true false) [.tmp 100, .tmp 101]⟩,
                  ⟨some 98, none, .eff (.lit (some 4) true) []⟩,
                  ⟨some 103, none, .eff (.append (some 4) 56) [.tmp 98, .tmp 102]⟩,
                  ⟨some 106, none, .eff (.append (some 4) 56) [.tmp 103, .tmp 105]⟩,
                  ⟨some 107, none, .rd (.build [.nilSl] [(0, 1)]) [.tmp 106]⟩,
                  ⟨none, none, .eff (.store (some 1)) [.tmp 11, .tmp 107]⟩]
                 .done
                 .stop))
               .stop)))
            .stop)))
         .stop))))
     .stop) L3
def c3 : CF := ⟨124,
  .seq (.region false [⟨some 2, none, .eff (.box (some 1)) [.tmp 0]⟩,
     ⟨some 4, none, .rd .mov [.pv (.bool false)]⟩] L3)
  (.seq (.region false [⟨some 15, none, .rd .mov [.tmp 1]⟩,
     ⟨some 16, none, .call (.pv (.fn 13 [] [])) [.tmp 15]⟩,
     ⟨some 14, none, .rd .mov [.tmp 16]⟩,
     ⟨some 17, none, .rd (.ext 0) [.tmp 14]⟩,
     ⟨some 18, none, .rd (.ext 1) [.tmp 14]⟩,
     ⟨some 5, none, .rd .mov [.tmp 17]⟩,
     ⟨some 6, none, .rd .mov [.tmp 18]⟩] L3)
  (.seq (.seq (.region false [⟨some 19, none, .rd .mov [.tmp 6]⟩,
      ⟨some 20, none, .rd (.un .not) [.tmp 19]⟩,
      ⟨some 21, none, .rd .mov [.tmp 20]⟩,
      ⟨some 22, some (21, false), .rd (.load (some 1)) [.tmp 2]⟩,
      ⟨some 23, some (21, false), .call (.pv (.fn 14 [] [])) [.tmp 22]⟩,
      ⟨some 24, some (21, false), .rd (.un .not) [.tmp 23]⟩,
      ⟨some 25, none, .rd .pick [.tmp 21, .pv (.bool true), .tmp 24]⟩,
      ⟨some 26, none, .rd .mov [.tmp 25]⟩,
      ⟨some 27, some (26, false), .rd .mov [.tmp 1]⟩,
      ⟨some 28, some (26, false), .rd .lenL [.tmp 27]⟩,
      ⟨some 29, some (26, false), .rd (.bin .gtr) [.tmp 28, .pv (.int .i64 60)]⟩,
      ⟨some 30, none, .rd .pick [.tmp 26, .pv (.bool true), .tmp 29]⟩] L3)
   (.cond (.tmp 30)
    (.seq (.region false [⟨some 31, none, .call (.pv (.fn 15 [] [])) []⟩,
        ⟨some 4, none, .rd .mov [.tmp 31]⟩] L3)
     (.ret))
    (.skip)))
  (.seq (.region false [⟨some 33, none, .rd (.load (some 1)) [.tmp 2]⟩,
     ⟨some 34, none, .rd .mov [.tmp 5]⟩,
     ⟨some 35, none, .call (.pv (.fn 16 [] [])) [.tmp 33, .tmp 34]⟩,
     ⟨some 32, none, .rd .mov [.tmp 35]⟩,
     ⟨some 36, none, .rd (.ext 0) [.tmp 32]⟩,
     ⟨some 37, none, .rd (.ext 1) [.tmp 32]⟩,
     ⟨some 7, none, .rd .mov [.tmp 36]⟩,
     ⟨some 8, none, .rd .mov [.tmp 37]⟩] L3)
  (.seq (.seq (.region false [⟨some 38, none, .rd .mov [.tmp 7]⟩,
      ⟨some 39, none, .rd (.bin .gtr) [.tmp 38, .pv (.int .i64 1000000000000000000)]⟩,
      ⟨some 40, none, .rd .mov [.tmp 39]⟩,
      ⟨some 41, some (40, false), .rd .mov [.tmp 7]⟩,
      ⟨some 42, some (40, false), .rd (.bin .lss) [.tmp 41, .pv (.int .i64 (-1000000000000000000))]⟩,
      ⟨some 43, none, .rd .pick [.tmp 40, .pv (.bool true), .tmp 42]⟩,
      ⟨some 44, none, .rd .mov [.tmp 43]⟩,
      ⟨some 45, some (44, false), .rd .mov [.tmp 8]⟩,
      ⟨some 46, some (44, false), .rd (.bin .neq) [.tmp 45, .pv (.int .i64 0)]⟩,
      ⟨some 47, some (44, false), .rd .mov [.tmp 46]⟩,
      ⟨some 48, some (47, true), .rd .mov [.tmp 7]⟩,
      ⟨some 49, some (47, true), .rd (.bin .neq) [.tmp 48, .pv (.int .i64 0)]⟩,
      ⟨some 50, some (44, false), .rd .pick [.tmp 47, .tmp 49, .pv (.bool false)]⟩,
      ⟨some 51, none, .rd .pick [.tmp 44, .pv (.bool true), .tmp 50]⟩] L3)
   (.cond (.tmp 51)
    (.seq (.region false [⟨some 4, none, .rd .mov [.pv (.bool false)]⟩] L3)
     (.ret))
    (.skip)))
  (.seq (.region false [⟨some 52, none, .rd (.fldAddr 0) [.tmp 2]⟩,
     ⟨some 53, none, .rd (.load none) [.tmp 52]⟩,
     ⟨some 54, none, .rd .lenL [.tmp 53]⟩,
     ⟨some 55, none, .rd (.bin .sub) [.tmp 54, .pv (.int .i64 1)]⟩,
     ⟨some 9, none, .rd .mov [.tmp 55]⟩] L3)
  (.seq (.seq (.region false [⟨some 56, none, .rd .mov [.tmp 8]⟩,
      ⟨some 57, none, .rd (.bin .neq) [.tmp 56, .pv (.int .i64 0)]⟩,
      ⟨some 58, none, .rd .mov [.tmp 57]⟩,
      ⟨some 59, some (58, false), .rd .mov [.tmp 9]⟩,
      ⟨some 60, some (58, false), .rd (.bin .lss) [.tmp 59, .pv (.int .i64 0)]⟩,
      ⟨some 61, none, .rd .pick [.tmp 58, .pv (.bool true), .tmp 60]⟩,
      ⟨some 62, none, .rd .mov [.tmp 61]⟩,
      ⟨some 63, some (62, false), .rd (.fldAddr 0) [.tmp 2]⟩,
      ⟨some 64, some (62, false), .rd (.load none) [.tmp 63]⟩,
      ⟨some 65, some (62, false), .rd .mov [.tmp 9]⟩,
      ⟨some 66, some (62, false), .rd (.idxAddr (some 4)) [.tmp 64, .tmp 65]⟩,
      ⟨some 67, some (62, false), .rd (.fldAddr 3) [.tmp 66]⟩,
      ⟨some 68, some (62, false), .rd (.load none) [.tmp 67]⟩,
      ⟨some 69, some (62, false), .rd .lenL [.tmp 68]⟩,
      ⟨some 70, some (62, false), .rd (.bin .neq) [.tmp 69, .pv (.int .i64 2)]⟩,
      ⟨some 71, none, .rd .pick [.tmp 62, .pv (.bool true), .tmp 70]⟩] L3)
   (.cond (.tmp 71)
    (.seq (.region false [⟨some 72, none, .call (.pv (.fn 15 [] [])) []⟩,
        ⟨some 4, none, .rd .mov [.tmp 72]⟩] L3)
     (.ret))
    (.skip)))
  (.seq (.seq (.region false [⟨some 73, none, .rd (.fldAddr 0) [.tmp 2]⟩,
      ⟨some 74, none, .rd (.load none) [.tmp 73]⟩,
      ⟨some 75, none, .rd .mov [.tmp 9]⟩,
      ⟨some 76, none, .rd (.idxAddr (some 4)) [.tmp 74, .tmp 75]⟩,
      ⟨some 77, none, .rd (.fldAddr 0) [.tmp 76]⟩,
      ⟨some 78, none, .rd (.load none) [.tmp 77]⟩] L3)
   (.block 0
    (.seq (.seq (.region false [⟨some 80, none, .rd (.bin .eql) [.tmp 78, .pv (.int .i64 3)]⟩,
         ⟨some 79, none, .rd .mov [.tmp 80]⟩] L3)
      (.cond (.tmp 79)
       (.skip)
       (.region false [⟨some 81, none, .rd (.bin .eql) [.tmp 78, .pv (.int .i64 8)]⟩,
          ⟨some 79, none, .rd .mov [.tmp 81]⟩] L3)))
     (.cond (.tmp 79)
      (.seq (.region false [⟨some 82, none, .call (.pv (.fn 15 [] [])) []⟩,
          ⟨some 4, none, .rd .mov [.tmp 82]⟩] L3)
       (.ret))
      (.skip)))))
  (.seq (.region false [⟨some 83, none, .rd (.fldAddr 0) [.tmp 2]⟩,
     ⟨some 84, none, .rd (.load none) [.tmp 83]⟩,
     ⟨some 85, none, .rd .mov [.tmp 9]⟩,
     ⟨some 86, none, .rd (.idxAddr (some 4)) [.tmp 84, .tmp 85]⟩,
     ⟨some 87, none, .rd (.load (some 4)) [.tmp 86]⟩,
     ⟨some 10, none, .eff (.alloc (some 4) (.agg [(.int .i64 0), (.int .i64 0), (.str []), .nilSl])) []⟩,
     ⟨none, none, .eff (.store (some 4)) [.tmp 10, .tmp 87]⟩] L3)
  (.seq (rA2)
  (.seq (rA3)
  (.seq (.region false [⟨some 109, none, .rd (.load (some 1)) [.tmp 11]⟩,
     ⟨some 110, none, .rd .mov [.tmp 5]⟩,
     ⟨some 111, none, .call (.pv (.fn 16 [] [])) [.tmp 109, .tmp 110]⟩,
     ⟨some 108, none, .rd .mov [.tmp 111]⟩,
     ⟨some 112, none, .rd (.ext 0) [.tmp 108]⟩,
     ⟨some 113, none, .rd (.ext 1) [.tmp 108]⟩,
     ⟨some 12, none, .rd .mov [.tmp 112]⟩,
     ⟨some 13, none, .rd .mov [.tmp 113]⟩] L3)
  (.seq (.region false [⟨some 114, none, .call (.pv (.fn 15 [] [])) []⟩,
     ⟨some 115, none, .rd .mov [.tmp 114]⟩,
     ⟨some 116, some (115, true), .rd .mov [.tmp 13]⟩,
     ⟨some 117, some (115, true), .rd (.bin .eql) [.tmp 116, .pv (.int .i64 0)]⟩,
     ⟨some 118, none, .rd .pick [.tmp 115, .tmp 117, .pv (.bool false)]⟩,
     ⟨some 119, none, .rd .mov [.tmp 118]⟩,
     ⟨some 120, some (119, true), .rd .mov [.tmp 7]⟩,
     ⟨some 121, some (119, true), .rd .mov [.tmp 12]⟩,
     ⟨some 122, some (119, true), .rd (.bin .eql) [.tmp 120, .tmp 121]⟩,
     ⟨some 123, none, .rd .pick [.tmp 119, .tmp 122, .pv (.bool false)]⟩,
     ⟨some 4, none, .rd .mov [.tmp 123]⟩] L3)
  (.ret))))))))))))),
  [.tmp 4]⟩

-- wagebook/wagebooklaw15.EvalReads
def L4 : List Nat := [0, 1, 2, 3, 6, 7, 8, 9, 10, 12, 13, 14, 16, 17, 18, 19, 20, 42, 47, 48, 49, 50, 55, 61, 63, 69, 73, 74, 75, 76, 83]
def c4 : CF := ⟨113,
  .seq (.region false [⟨some 3, none, .eff (.box (some 1)) [.tmp 0]⟩,
     ⟨some 6, none, .rd .mov [.pv (.bool false)]⟩] L4)
  (.seq (.region false [⟨some 22, none, .rd .mov [.tmp 1]⟩,
     ⟨some 23, none, .call (.pv (.fn 13 [] [])) [.tmp 22]⟩,
     ⟨some 21, none, .rd .mov [.tmp 23]⟩,
     ⟨some 24, none, .rd (.ext 0) [.tmp 21]⟩,
     ⟨some 25, none, .rd (.ext 1) [.tmp 21]⟩,
     ⟨some 7, none, .rd .mov [.tmp 24]⟩,
     ⟨some 8, none, .rd .mov [.tmp 25]⟩] L4)
  (.seq (.seq (.region false [⟨some 26, none, .rd .mov [.tmp 8]⟩,
      ⟨some 27, none, .rd (.un .not) [.tmp 26]⟩,
      ⟨some 28, none, .rd .mov [.tmp 27]⟩,
      ⟨some 29, some (28, false), .rd (.load (some 1)) [.tmp 3]⟩,
      ⟨some 30, some (28, false), .call (.pv (.fn 14 [] [])) [.tmp 29]⟩,
      ⟨some 31, some (28, false), .rd (.un .not) [.tmp 30]⟩,
      ⟨some 32, none, .rd .pick [.tmp 28, .pv (.bool true), .tmp 31]⟩,
      ⟨some 33, none, .rd .mov [.tmp 32]⟩,
      ⟨some 34, some (33, false), .rd .mov [.tmp 1]⟩,
      ⟨some 35, some (33, false), .rd .lenL [.tmp 34]⟩,
      ⟨some 36, some (33, false), .rd (.bin .gtr) [.tmp 35, .pv (.int .i64 60)]⟩,
      ⟨some 37, none, .rd .pick [.tmp 33, .pv (.bool true), .tmp 36]⟩,
      ⟨some 38, none, .rd .mov [.tmp 37]⟩,
      ⟨some 39, some (38, false), .rd .mov [.tmp 2]⟩,
      ⟨some 40, some (38, false), .rd .lenL [.tmp 39]⟩,
      ⟨some 41, some (38, false), .rd (.bin .gtr) [.tmp 40, .pv (.int .i64 60)]⟩,
      ⟨some 42, none, .rd .pick [.tmp 38, .pv (.bool true), .tmp 41]⟩] L4)
   (.cond (.tmp 42)
    (.seq (.region false [⟨some 43, none, .call (.pv (.fn 15 [] [])) []⟩,
        ⟨some 6, none, .rd .mov [.tmp 43]⟩] L4)
     (.ret))
    (.skip)))
  (.seq (.region false [⟨some 44, none, .eff (.mmk .str) []⟩,
     ⟨some 9, none, .rd .mov [.tmp 44]⟩] L4)
  (.seq (.region false [⟨some 45, none, .eff (.mmk .str) []⟩,
     ⟨some 10, none, .rd .mov [.tmp 45]⟩] L4)
  (.seq (.seq (.region false [⟨some 46, none, .rd (.fldAddr 0) [.tmp 3]⟩,
      ⟨some 47, none, .rd (.load none) [.tmp 46]⟩,
      ⟨some 48, none, .rd .lenL [.tmp 47]⟩,
      ⟨some 49, none, .rd .mov [.pv (.int .i64 0)]⟩] L4)
   (.block 0
    (.loop
      (.seq (.region false [⟨some 50, none, .rd (.bin .lss) [.tmp 49, .tmp 48]⟩] L4)
       (.seq (.cond (.tmp 50)
         (.skip)
         (.exit 0))
       (.seq (.block 1
         (.seq (.region false [⟨some 51, none, .rd (.idxAddr (some 4)) [.tmp 47, .tmp 49]⟩,
             ⟨some 52, none, .rd (.load (some 4)) [.tmp 51]⟩,
             ⟨some 12, none, .eff (.alloc (some 4) (.agg [(.int .i64 0), (.int .i64 0), (.str []), .nilSl])) []⟩,
             ⟨none, none, .eff (.store (some 4)) [.tmp 12, .tmp 52]⟩] L4)
          (.seq (.region false [⟨some 53, none, .rd (.fldAddr 0) [.tmp 12]⟩,
             ⟨some 54, none, .rd (.load none) [.tmp 53]⟩,
             ⟨some 55, none, .rd (.bin .eql) [.tmp 54, .pv (.int .i64 1)]⟩] L4)
          (.cond (.tmp 55)
           (.region false [⟨some 56, none, .rd .mov [.tmp 10]⟩,
              ⟨some 57, none, .rd (.fldAddr 2) [.tmp 12]⟩,
              ⟨some 58, none, .rd (.load none) [.tmp 57]⟩,
              ⟨none, none, .eff (.mupd .str) [.tmp 56, .tmp 58, .pv (.bool true)]⟩] L4)
           (.skip)))))
       (.region false [⟨some 59, none, .rd (.bin .add) [.tmp 49, .pv (.int .i64 1)]⟩,
         ⟨some 49, none, .rd .mov [.tmp 59]⟩] L4)))))))
  (.seq (.seq (.region false [⟨some 60, none, .rd .mov [.tmp 7]⟩,
      ⟨some 61, none, .eff (.rng .str) [.tmp 60]⟩] L4)
   (.block 2
    (.loop
      (.seq (.region false [⟨some 62, none, .eff .nxt [.tmp 61]⟩,
          ⟨some 63, none, .rd (.ext 0) [.tmp 62]⟩] L4)
       (.seq (.cond (.tmp 63)
         (.skip)
         (.exit 2))
       (.block 3
        (.seq (.region false [⟨some 64, none, .eff .ent [.tmp 61]⟩,
            ⟨some 65, none, .rd (.ext 0) [.tmp 64]⟩,
            ⟨some 66, none, .rd (.ext 1) [.tmp 64]⟩,
            ⟨some 13, none, .rd .mov [.tmp 65]⟩,
            ⟨some 14, none, .rd .mov [.tmp 66]⟩] L4)
         (.seq (.region false [⟨some 67, none, .rd .mov [.tmp 10]⟩,
            ⟨some 68, none, .rd .mov [.tmp 13]⟩,
            ⟨some 69, none, .rd (.look .str false (.bool false)) [.tmp 67, .tmp 68]⟩] L4)
         (.cond (.tmp 69)
          (.region false [⟨some 70, none, .rd .mov [.tmp 9]⟩,
             ⟨some 71, none, .rd .mov [.tmp 13]⟩,
             ⟨some 72, none, .rd .mov [.tmp 14]⟩,
             ⟨none, none, .eff (.mupd .str) [.tmp 70, .tmp 71, .tmp 72]⟩] L4)
          (.skip))))))))))
  (.seq (.seq (.region false [⟨some 73, none, .rd .mov [.tmp 2]⟩,
      ⟨some 74, none, .rd .lenL [.tmp 73]⟩,
      ⟨some 75, none, .rd .mov [.pv (.int .i64 0)]⟩] L4)
   (.block 4
    (.loop
      (.seq (.region false [⟨some 76, none, .rd (.bin .lss) [.tmp 75, .tmp 74]⟩] L4)
       (.seq (.cond (.tmp 76)
         (.skip)
         (.exit 4))
       (.seq (.block 5
         (.seq (.region false [⟨some 77, none, .rd (.idxAddr (some 2)) [.tmp 73, .tmp 75]⟩,
             ⟨some 78, none, .rd (.load (some 2)) [.tmp 77]⟩,
             ⟨some 16, none, .eff (.alloc (some 2) (.agg [(.str []), (.int .i64 0)])) []⟩,
             ⟨none, none, .eff (.store (some 2)) [.tmp 16, .tmp 78]⟩] L4)
          (.seq (.region false [⟨some 79, none, .rd .mov [.tmp 10]⟩,
             ⟨some 80, none, .rd (.fldAddr 0) [.tmp 16]⟩,
             ⟨some 81, none, .rd (.load none) [.tmp 80]⟩,
             ⟨some 82, none, .rd (.look .str false (.bool false)) [.tmp 79, .tmp 81]⟩,
             ⟨some 83, none, .rd (.un .not) [.tmp 82]⟩] L4)
          (.cond (.tmp 83)
           (.region false [⟨some 84, none, .rd .mov [.tmp 9]⟩,
              ⟨some 85, none, .rd (.fldAddr 0) [.tmp 16]⟩,
              ⟨some 86, none, .rd (.load none) [.tmp 85]⟩,
              ⟨some 87, none, .rd (.fldAddr 1) [.tmp 16]⟩,
              ⟨some 88, none, .rd (.load none) [.tmp 87]⟩,
              ⟨none, none, .eff (.mupd .str) [.tmp 84, .tmp 86, .tmp 88]⟩] L4)
           (.skip)))))
       (.region false [⟨some 89, none, .rd (.bin .add) [.tmp 75, .pv (.int .i64 1)]⟩,
         ⟨some 75, none, .rd .mov [.tmp 89]⟩] L4)))))))
  (.seq (.region false [⟨some 91, none, .rd (.load (some 1)) [.tmp 3]⟩,
     ⟨some 92, none, .rd .mov [.tmp 7]⟩,
     ⟨some 93, none, .call (.pv (.fn 16 [] [])) [.tmp 91, .tmp 92]⟩,
     ⟨some 90, none, .rd .mov [.tmp 93]⟩,
     ⟨some 94, none, .rd (.ext 0) [.tmp 90]⟩,
     ⟨some 95, none, .rd (.ext 1) [.tmp 90]⟩,
     ⟨some 17, none, .rd .mov [.tmp 94]⟩,
     ⟨some 18, none, .rd .mov [.tmp 95]⟩] L4)
  (.seq (.region false [⟨some 97, none, .rd (.load (some 1)) [.tmp 3]⟩,
     ⟨some 98, none, .rd .mov [.tmp 9]⟩,
     ⟨some 99, none, .call (.pv (.fn 16 [] [])) [.tmp 97, .tmp 98]⟩,
     ⟨some 96, none, .rd .mov [.tmp 99]⟩,
     ⟨some 100, none, .rd (.ext 0) [.tmp 96]⟩,
     ⟨some 101, none, .rd (.ext 1) [.tmp 96]⟩,
     ⟨some 19, none, .rd .mov [.tmp 100]⟩,
     ⟨some 20, none, .rd .mov [.tmp 101]⟩] L4)
  (.seq (.region false [⟨some 102, none, .call (.pv (.fn 15 [] [])) []⟩,
     ⟨some 103, none, .rd .mov [.tmp 102]⟩,
     ⟨some 104, some (103, true), .rd .mov [.tmp 17]⟩,
     ⟨some 105, some (103, true), .rd .mov [.tmp 19]⟩,
     ⟨some 106, some (103, true), .rd (.bin .eql) [.tmp 104, .tmp 105]⟩,
     ⟨some 107, none, .rd .pick [.tmp 103, .tmp 106, .pv (.bool false)]⟩,
     ⟨some 108, none, .rd .mov [.tmp 107]⟩,
     ⟨some 109, some (108, true), .rd .mov [.tmp 18]⟩,
     ⟨some 110, some (108, true), .rd .mov [.tmp 20]⟩,
     ⟨some 111, some (108, true), .rd (.bin .eql) [.tmp 109, .tmp 110]⟩,
     ⟨some 112, none, .rd .pick [.tmp 108, .tmp 111, .pv (.bool false)]⟩,
     ⟨some 6, none, .rd .mov [.tmp 112]⟩] L4)
  (.ret))))))))))),
  [.tmp 6]⟩

-- wagebook/wagebooklaw15.env
def L13 : List Nat := [0, 2, 3, 4, 6, 8, 9, 10, 11]
def c13 : CF := ⟨26,
  .seq (.region false [⟨some 2, none, .rd .mov [.pv .nilMap]⟩,
     ⟨some 3, none, .rd .mov [.pv (.bool false)]⟩] L13)
  (.seq (.region false [⟨some 7, none, .eff (.mmk .str) []⟩,
     ⟨some 4, none, .rd .mov [.tmp 7]⟩] L13)
  (.seq (.seq (.region false [⟨some 8, none, .rd .mov [.tmp 0]⟩,
      ⟨some 9, none, .rd .lenL [.tmp 8]⟩,
      ⟨some 10, none, .rd .mov [.pv (.int .i64 0)]⟩] L13)
   (.block 0
    (.loop
      (.seq (.region false [⟨some 11, none, .rd (.bin .lss) [.tmp 10, .tmp 9]⟩] L13)
       (.seq (.cond (.tmp 11)
         (.skip)
         (.exit 0))
       (.seq (.block 1
         (.seq (.region false [⟨some 12, none, .rd (.idxAddr (some 2)) [.tmp 8, .tmp 10]⟩,
             ⟨some 13, none, .rd (.load (some 2)) [.tmp 12]⟩,
             ⟨some 6, none, .eff (.alloc (some 2) (.agg [(.str []), (.int .i64 0)])) []⟩,
             ⟨none, none, .eff (.store (some 2)) [.tmp 6, .tmp 13]⟩] L13)
          (.region false [⟨some 14, none, .rd .mov [.tmp 4]⟩,
            ⟨some 15, none, .rd (.fldAddr 0) [.tmp 6]⟩,
            ⟨some 16, none, .rd (.load none) [.tmp 15]⟩,
            ⟨some 17, none, .rd (.fldAddr 1) [.tmp 6]⟩,
            ⟨some 18, none, .rd (.load none) [.tmp 17]⟩,
            ⟨none, none, .eff (.mupd .str) [.tmp 14, .tmp 16, .tmp 18]⟩] L13)))
       (.region false [⟨some 19, none, .rd (.bin .add) [.tmp 10, .pv (.int .i64 1)]⟩,
         ⟨some 10, none, .rd .mov [.tmp 19]⟩] L13)))))))
  (.seq (.region false [⟨some 20, none, .rd .mov [.tmp 4]⟩,
     ⟨some 21, none, .rd .mov [.tmp 4]⟩,
     ⟨some 22, none, .rd .lenM [.tmp 21]⟩,
     ⟨some 23, none, .rd .mov [.tmp 0]⟩,
     ⟨some 24, none, .rd .lenL [.tmp 23]⟩,
     ⟨some 25, none, .rd (.bin .eql) [.tmp 22, .tmp 24]⟩,
     ⟨some 2, none, .rd .mov [.tmp 20]⟩,
     ⟨some 3, none, .rd .mov [.tmp 25]⟩] L13)
  (.ret)))),
  [.tmp 2, .tmp 3]⟩

-- wagebook/wagebooklaw15.small
def L14 : List Nat := [0, 1, 2, 3, 5, 7, 8, 9, 10]
def c14 : CF := ⟨26,
  .seq (.region false [⟨some 1, none, .eff (.box (some 1)) [.tmp 0]⟩,
     ⟨some 2, none, .rd .mov [.pv (.bool false)]⟩] L14)
  (.seq (.region false [⟨some 3, none, .rd .mov [.pv (.int .i64 0)]⟩] L14)
  (.seq (.seq (.region false [⟨some 6, none, .rd (.fldAddr 0) [.tmp 1]⟩,
      ⟨some 7, none, .rd (.load none) [.tmp 6]⟩,
      ⟨some 8, none, .rd .lenL [.tmp 7]⟩,
      ⟨some 9, none, .rd .mov [.pv (.int .i64 0)]⟩] L14)
   (.block 0
    (.loop
      (.seq (.region false [⟨some 10, none, .rd (.bin .lss) [.tmp 9, .tmp 8]⟩] L14)
       (.seq (.cond (.tmp 10)
         (.skip)
         (.exit 0))
       (.seq (.block 1
         (.seq (.region false [⟨some 11, none, .rd (.idxAddr (some 4)) [.tmp 7, .tmp 9]⟩,
             ⟨some 12, none, .rd (.load (some 4)) [.tmp 11]⟩,
             ⟨some 5, none, .eff (.alloc (some 4) (.agg [(.int .i64 0), (.int .i64 0), (.str []), .nilSl])) []⟩,
             ⟨none, none, .eff (.store (some 4)) [.tmp 5, .tmp 12]⟩] L14)
          (.region false [⟨some 13, none, .rd .mov [.tmp 3]⟩,
            ⟨some 14, none, .rd (.fldAddr 3) [.tmp 5]⟩,
            ⟨some 15, none, .rd (.load none) [.tmp 14]⟩,
            ⟨some 16, none, .rd .lenL [.tmp 15]⟩,
            ⟨some 17, none, .rd (.bin .add) [.pv (.int .i64 1), .tmp 16]⟩,
            ⟨some 18, none, .rd (.fldAddr 2) [.tmp 5]⟩,
            ⟨some 19, none, .rd (.load none) [.tmp 18]⟩,
            ⟨some 20, none, .rd .lenS [.tmp 19]⟩,
            ⟨some 21, none, .rd (.bin .add) [.tmp 17, .tmp 20]⟩,
            ⟨some 22, none, .rd (.bin .add) [.tmp 13, .tmp 21]⟩,
            ⟨some 3, none, .rd .mov [.tmp 22]⟩] L14)))
       (.region false [⟨some 23, none, .rd (.bin .add) [.tmp 9, .pv (.int .i64 1)]⟩,
         ⟨some 9, none, .rd .mov [.tmp 23]⟩] L14)))))))
  (.seq (.region false [⟨some 24, none, .rd .mov [.tmp 3]⟩,
     ⟨some 25, none, .rd (.bin .leq) [.tmp 24, .pv (.int .i64 1500)]⟩,
     ⟨some 2, none, .rd .mov [.tmp 25]⟩] L14)
  (.ret)))),
  [.tmp 2]⟩

-- wagebook/wagebooklaw15.awake
def L15 : List Nat := [0, 1, 2, 3]
def c15 : CF := ⟨29,
  .seq (.region false [⟨some 0, none, .rd .mov [.pv (.bool false)]⟩] L15)
  (.seq (.region false [⟨some 4, none, .rd (.build [(.int .i64 0), (.int .i64 0), (.str []), .nilSl] [(0, 1), (2, 1)]) [.pv (.int .i64 1), .pv (.str [97])]⟩,
     ⟨some 5, none, .rd (.build [(.int .i64 0), (.int .i64 0), (.str []), .nilSl] [(0, 1), (1, 1)]) [.pv (.int .i64 0), .pv (.int .i64 2000000)]⟩,
     ⟨some 6, none, .rd (.build [(.int .i64 0), (.int .i64 0), (.str []), .nilSl] [(0, 1), (2, 1)]) [.pv (.int .i64 1), .pv (.str [98])]⟩,
     ⟨some 7, none, .rd (.build [(.int .i64 0), (.int .i64 0), (.str []), .nilSl] [(0, 1), (2, 1)]) [.pv (.int .i64 1), .pv (.str [99])]⟩,
     ⟨some 8, none, .eff (.lit none false) [.pv (.int .i64 2), .pv (.int .i64 3)]⟩,
     ⟨some 9, none, .rd (.build [(.int .i64 0), (.int .i64 0), (.str []), .nilSl] [(0, 1), (3, 1)]) [.pv (.int .i64 3), .tmp 8]⟩,
     ⟨some 10, none, .eff (.lit none false) [.pv (.int .i64 1), .pv (.int .i64 4)]⟩,
     ⟨some 11, none, .rd (.build [(.int .i64 0), (.int .i64 0), (.str []), .nilSl] [(0, 1), (3, 1)]) [.pv (.int .i64 4), .tmp 10]⟩,
     ⟨some 12, none, .eff (.lit none false) [.pv (.int .i64 0), .pv (.int .i64 5)]⟩,
     ⟨some 13, none, .rd (.build [(.int .i64 0), (.int .i64 0), (.str []), .nilSl] [(0, 1), (3, 1)]) [.pv (.int .i64 2), .tmp 12]⟩,
     ⟨some 14, none, .eff (.lit (some 4) false) [.tmp 4, .tmp 5, .tmp 6, .tmp 7, .tmp 9, .tmp 11, .tmp 13]⟩,
     ⟨some 15, none, .rd (.build [.nilSl] [(0, 1)]) [.tmp 14]⟩,
     ⟨some 1, none, .eff (.alloc (some 1) (.agg [.nilSl])) []⟩,
     ⟨none, none, .eff (.store (some 1)) [.tmp 1, .tmp 15]⟩] L15)
  (.seq (.region false [⟨some 17, none, .rd (.load (some 1)) [.tmp 1]⟩,
     ⟨some 18, none, .eff (.mmk .str) []⟩,
     ⟨none, none, .eff (.mupd .str) [.tmp 18, .pv (.str [97]), .pv (.int .i64 1000000)]⟩,
     ⟨none, none, .eff (.mupd .str) [.tmp 18, .pv (.str [98]), .pv (.int .i64 2500000)]⟩,
     ⟨none, none, .eff (.mupd .str) [.tmp 18, .pv (.str [99]), .pv (.int .i64 500000)]⟩,
     ⟨some 19, none, .rd .mov [.tmp 18]⟩,
     ⟨some 20, none, .call (.pv (.fn 16 [] [])) [.tmp 17, .tmp 19]⟩,
     ⟨some 16, none, .rd .mov [.tmp 20]⟩,
     ⟨some 21, none, .rd (.ext 0) [.tmp 16]⟩,
     ⟨some 22, none, .rd (.ext 1) [.tmp 16]⟩,
     ⟨some 2, none, .rd .mov [.tmp 21]⟩,
     ⟨some 3, none, .rd .mov [.tmp 22]⟩] L15)
  (.seq (.region false [⟨some 23, none, .rd .mov [.tmp 2]⟩,
     ⟨some 24, none, .rd (.bin .eql) [.tmp 23, .pv (.int .i64 5000000)]⟩,
     ⟨some 25, none, .rd .mov [.tmp 24]⟩,
     ⟨some 26, some (25, true), .rd .mov [.tmp 3]⟩,
     ⟨some 27, some (25, true), .rd (.bin .eql) [.tmp 26, .pv (.int .i64 0)]⟩,
     ⟨some 28, none, .rd .pick [.tmp 25, .tmp 27, .pv (.bool false)]⟩,
     ⟨some 0, none, .rd .mov [.tmp 28]⟩] L15)
  (.ret)))),
  [.tmp 0]⟩

-- wagebook/eval.Eval
def L16 : List Nat := [0, 1, 2, 4, 5, 6, 7, 8, 9, 10, 12, 13, 14, 18, 25, 26, 27, 28, 33, 34, 35, 36, 54, 64, 73]
def c16 : CF := ⟨85,
  .seq (.region false [⟨some 2, none, .eff (.box (some 1)) [.tmp 0]⟩,
     ⟨some 4, none, .rd .mov [.pv (.int .i64 0)]⟩,
     ⟨some 5, none, .rd .mov [.pv (.int .i64 0)]⟩] L16)
  (.seq (.seq (.region false [⟨some 15, none, .rd (.load (some 1)) [.tmp 2]⟩,
      ⟨some 16, none, .call (.pv (.fn 29 [] [])) [.tmp 15]⟩,
      ⟨some 6, none, .rd .mov [.tmp 16]⟩] L16)
   (.seq (.region false [⟨some 17, none, .rd .mov [.tmp 6]⟩,
      ⟨some 18, none, .rd (.bin .neq) [.tmp 17, .pv (.int .i64 0)]⟩] L16)
   (.cond (.tmp 18)
    (.seq (.region false [⟨some 19, none, .rd .mov [.tmp 6]⟩,
        ⟨some 4, none, .rd .mov [.pv (.int .i64 0)]⟩,
        ⟨some 5, none, .rd .mov [.tmp 19]⟩] L16)
     (.ret))
    (.skip))))
  (.seq (.region false [⟨some 20, none, .rd (.fldAddr 0) [.tmp 2]⟩,
     ⟨some 21, none, .rd (.load none) [.tmp 20]⟩,
     ⟨some 22, none, .rd .lenL [.tmp 21]⟩,
     ⟨some 23, none, .eff (.make none (.int .i64 0) 8) [.tmp 22, .tmp 22]⟩,
     ⟨some 7, none, .rd .mov [.tmp 23]⟩] L16)
  (.seq (.seq (.region false [⟨some 24, none, .rd (.fldAddr 0) [.tmp 2]⟩,
      ⟨some 25, none, .rd (.load none) [.tmp 24]⟩,
      ⟨some 26, none, .rd .lenL [.tmp 25]⟩,
      ⟨some 27, none, .rd .mov [.pv (.int .i64 0)]⟩] L16)
   (.block 0
    (.loop
      (.seq (.region false [⟨some 28, none, .rd (.bin .lss) [.tmp 27, .tmp 26]⟩] L16)
       (.seq (.cond (.tmp 28)
         (.skip)
         (.exit 0))
       (.seq (.block 1
         (.seq (.region false [⟨some 29, none, .rd .mov [.tmp 27]⟩,
             ⟨some 30, none, .rd (.idxAddr (some 4)) [.tmp 25, .tmp 27]⟩,
             ⟨some 31, none, .rd (.load (some 4)) [.tmp 30]⟩,
             ⟨some 9, none, .eff (.alloc (some 4) (.agg [(.int .i64 0), (.int .i64 0), (.str []), .nilSl])) []⟩,
             ⟨some 8, none, .rd .mov [.tmp 29]⟩,
             ⟨none, none, .eff (.store (some 4)) [.tmp 9, .tmp 31]⟩] L16)
          (.seq (.region false [⟨some 10, none, .rd .mov [.pv .nilSl]⟩] L16)
          (.seq (.seq (.region false [⟨some 32, none, .rd (.fldAddr 3) [.tmp 9]⟩,
              ⟨some 33, none, .rd (.load none) [.tmp 32]⟩,
              ⟨some 34, none, .rd .lenL [.tmp 33]⟩,
              ⟨some 35, none, .rd .mov [.pv (.int .i64 0)]⟩] L16)
           (.block 2
            (.loop
              (.seq (.region false [⟨some 36, none, .rd (.bin .lss) [.tmp 35, .tmp 34]⟩] L16)
               (.seq (.cond (.tmp 36)
                 (.skip)
                 (.exit 2))
               (.seq (.block 3
                 (.seq (.region false [⟨some 37, none, .rd (.idxAddr none) [.tmp 33, .tmp 35]⟩,
                     ⟨some 38, none, .rd (.load none) [.tmp 37]⟩,
                     ⟨some 12, none, .rd .mov [.tmp 38]⟩] L16)
                  (.region false [⟨some 39, none, .rd .mov [.tmp 10]⟩,
                    ⟨some 40, none, .rd .mov [.tmp 7]⟩,
                    ⟨some 41, none, .rd .mov [.tmp 12]⟩,
                    ⟨some 42, none, .rd (.idxAddr none) [.tmp 40, .tmp 41]⟩,
                    ⟨some 43, none, .rd (.load none) [.tmp 42]⟩,
                    ⟨some 44, none, .eff (.lit none false) [.tmp 43]⟩,
                    ⟨some 45, none, .eff (.append none 8) [.tmp 39, .tmp 44]⟩,
                    ⟨some 10, none, .rd .mov [.tmp 45]⟩] L16)))
               (.region false [⟨some 46, none, .rd (.bin .add) [.tmp 35, .pv (.int .i64 1)]⟩,
                 ⟨some 35, none, .rd .mov [.tmp 46]⟩] L16)))))))
          (.seq (.region false [⟨some 48, none, .rd .mov [.tmp 1]⟩,
             ⟨some 49, none, .rd (.fldAddr 2) [.tmp 9]⟩,
             ⟨some 50, none, .rd (.load none) [.tmp 49]⟩,
             ⟨some 51, none, .rd (.look .str true (.int .i64 0)) [.tmp 48, .tmp 50]⟩,
             ⟨some 47, none, .rd .mov [.tmp 51]⟩,
             ⟨some 52, none, .rd (.ext 0) [.tmp 47]⟩,
             ⟨some 53, none, .rd (.ext 1) [.tmp 47]⟩,
             ⟨some 13, none, .rd .mov [.tmp 52]⟩,
             ⟨some 14, none, .rd .mov [.tmp 53]⟩] L16)
          (.seq (.block 4
            (.seq (.region false [⟨some 55, none, .rd (.fldAddr 0) [.tmp 9]⟩,
                ⟨some 56, none, .rd (.load none) [.tmp 55]⟩,
                ⟨some 57, none, .rd (.bin .neq) [.tmp 56, .pv (.int .i64 1)]⟩,
                ⟨some 54, none, .rd .mov [.tmp 57]⟩] L16)
             (.cond (.tmp 54)
              (.region false [⟨some 59, none, .rd (.load (some 4)) [.tmp 9]⟩,
                 ⟨some 60, none, .rd .mov [.tmp 10]⟩,
                 ⟨some 61, none, .call (.pv (.fn 38 [] [])) [.tmp 59, .tmp 60]⟩,
                 ⟨some 58, none, .rd .mov [.tmp 61]⟩,
                 ⟨some 62, none, .rd (.ext 0) [.tmp 58]⟩,
                 ⟨some 63, none, .rd (.ext 1) [.tmp 58]⟩,
                 ⟨some 13, none, .rd .mov [.tmp 62]⟩,
                 ⟨some 14, none, .rd .mov [.tmp 63]⟩] L16)
              (.seq (.region false [⟨some 65, none, .rd .mov [.tmp 14]⟩,
                  ⟨some 66, none, .rd (.un .not) [.tmp 65]⟩,
                  ⟨some 64, none, .rd .mov [.tmp 66]⟩] L16)
               (.cond (.tmp 64)
                (.seq (.region false [⟨some 4, none, .rd .mov [.pv (.int .i64 0)]⟩,
                    ⟨some 5, none, .rd .mov [.pv (.int .i64 21)]⟩] L16)
                 (.ret))
                (.skip))))))
          (.seq (.seq (.region false [⟨some 67, none, .rd .mov [.tmp 14]⟩,
              ⟨some 68, none, .rd (.un .not) [.tmp 67]⟩,
              ⟨some 69, none, .rd .mov [.tmp 68]⟩,
              ⟨some 70, some (69, false), .rd .mov [.tmp 13]⟩,
              ⟨some 71, some (69, false), .call (.pv (.fn 39 [] [])) [.tmp 70]⟩,
              ⟨some 72, some (69, false), .rd (.un .not) [.tmp 71]⟩,
              ⟨some 73, none, .rd .pick [.tmp 69, .pv (.bool true), .tmp 72]⟩] L16)
           (.cond (.tmp 73)
            (.seq (.region false [⟨some 4, none, .rd .mov [.pv (.int .i64 0)]⟩,
                ⟨some 5, none, .rd .mov [.pv (.int .i64 9)]⟩] L16)
             (.ret))
            (.skip)))
          (.region false [⟨some 74, none, .rd .mov [.tmp 7]⟩,
            ⟨some 75, none, .rd .mov [.tmp 8]⟩,
            ⟨some 76, none, .rd .mov [.tmp 13]⟩,
            ⟨some 77, none, .rd (.idxAddr none) [.tmp 74, .tmp 75]⟩,
            ⟨none, none, .eff (.store none) [.tmp 77, .tmp 76]⟩] L16))))))))
       (.region false [⟨some 78, none, .rd (.bin .add) [.tmp 27, .pv (.int .i64 1)]⟩,
         ⟨some 27, none, .rd .mov [.tmp 78]⟩] L16)))))))
  (.seq (.region false [⟨some 79, none, .rd .mov [.tmp 7]⟩,
     ⟨some 80, none, .rd .mov [.tmp 7]⟩,
     ⟨some 81, none, .rd .lenL [.tmp 80]⟩,
     ⟨some 82, none, .rd (.bin .sub) [.tmp 81, .pv (.int .i64 1)]⟩,
     ⟨some 83, none, .rd (.idxAddr none) [.tmp 79, .tmp 82]⟩,
     ⟨some 84, none, .rd (.load none) [.tmp 83]⟩,
     ⟨some 4, none, .rd .mov [.tmp 84]⟩,
     ⟨some 5, none, .rd .mov [.pv (.int .i64 0)]⟩] L16)
  (.ret))))),
  [.tmp 4, .tmp 5]⟩

-- (wagebook/expr.Tree).Check
def L29 : List Nat := [0, 1, 2, 3, 4, 5, 6, 7, 9, 10, 15, 25, 26, 27, 28, 38, 41, 42, 43, 44, 59, 65, 73, 76]
def c29 : CF := ⟨77,
  .seq (.region false [⟨some 1, none, .eff (.box (some 1)) [.tmp 0]⟩,
     ⟨some 2, none, .rd .mov [.pv (.int .i64 0)]⟩] L29)
  (.seq (.block 0
    (.seq (.region false [⟨some 11, none, .rd (.fldAddr 0) [.tmp 1]⟩,
        ⟨some 12, none, .rd (.load none) [.tmp 11]⟩,
        ⟨some 13, none, .rd .lenL [.tmp 12]⟩,
        ⟨some 14, none, .rd (.bin .eql) [.tmp 13, .pv (.int .i64 0)]⟩,
        ⟨some 10, none, .rd .mov [.tmp 14]⟩] L29)
     (.cond (.tmp 10)
      (.seq (.region false [⟨some 2, none, .rd .mov [.pv (.int .i64 10)]⟩] L29)
       (.ret))
      (.seq (.region false [⟨some 16, none, .rd (.fldAddr 0) [.tmp 1]⟩,
          ⟨some 17, none, .rd (.load none) [.tmp 16]⟩,
          ⟨some 18, none, .rd .lenL [.tmp 17]⟩,
          ⟨some 19, none, .rd (.bin .gtr) [.tmp 18, .pv (.int .i64 256)]⟩,
          ⟨some 15, none, .rd .mov [.tmp 19]⟩] L29)
       (.cond (.tmp 15)
        (.seq (.region false [⟨some 2, none, .rd .mov [.pv (.int .i64 5)]⟩] L29)
         (.ret))
        (.skip))))))
  (.seq (.region false [⟨some 20, none, .rd (.fldAddr 0) [.tmp 1]⟩,
     ⟨some 21, none, .rd (.load none) [.tmp 20]⟩,
     ⟨some 22, none, .rd .lenL [.tmp 21]⟩,
     ⟨some 23, none, .eff (.make none (.bool false) 1) [.tmp 22, .tmp 22]⟩,
     ⟨some 3, none, .rd .mov [.tmp 23]⟩] L29)
  (.seq (.seq (.region false [⟨some 24, none, .rd (.fldAddr 0) [.tmp 1]⟩,
      ⟨some 25, none, .rd (.load none) [.tmp 24]⟩,
      ⟨some 26, none, .rd .lenL [.tmp 25]⟩,
      ⟨some 27, none, .rd .mov [.pv (.int .i64 0)]⟩] L29)
   (.block 1
    (.loop
      (.seq (.region false [⟨some 28, none, .rd (.bin .lss) [.tmp 27, .tmp 26]⟩] L29)
       (.seq (.cond (.tmp 28)
         (.skip)
         (.exit 1))
       (.seq (.block 2
         (.seq (.region false [⟨some 29, none, .rd .mov [.tmp 27]⟩,
             ⟨some 30, none, .rd (.idxAddr (some 4)) [.tmp 25, .tmp 27]⟩,
             ⟨some 31, none, .rd (.load (some 4)) [.tmp 30]⟩,
             ⟨some 5, none, .eff (.alloc (some 4) (.agg [(.int .i64 0), (.int .i64 0), (.str []), .nilSl])) []⟩,
             ⟨some 4, none, .rd .mov [.tmp 29]⟩,
             ⟨none, none, .eff (.store (some 4)) [.tmp 5, .tmp 31]⟩] L29)
          (.seq (.region false [⟨some 33, none, .rd (.load (some 4)) [.tmp 5]⟩,
             ⟨some 34, none, .call (.pv (.fn 60 [] [])) [.tmp 33]⟩,
             ⟨some 32, none, .rd .mov [.tmp 34]⟩,
             ⟨some 35, none, .rd (.ext 0) [.tmp 32]⟩,
             ⟨some 36, none, .rd (.ext 1) [.tmp 32]⟩,
             ⟨some 6, none, .rd .mov [.tmp 35]⟩,
             ⟨some 7, none, .rd .mov [.tmp 36]⟩] L29)
          (.seq (.seq (.region false [⟨some 37, none, .rd .mov [.tmp 6]⟩,
              ⟨some 38, none, .rd (.bin .neq) [.tmp 37, .pv (.int .i64 0)]⟩] L29)
           (.cond (.tmp 38)
            (.seq (.region false [⟨some 39, none, .rd .mov [.tmp 6]⟩,
                ⟨some 2, none, .rd .mov [.tmp 39]⟩] L29)
             (.ret))
            (.skip)))
          (.seq (.seq (.region false [⟨some 40, none, .rd (.fldAddr 3) [.tmp 5]⟩,
              ⟨some 41, none, .rd (.load none) [.tmp 40]⟩,
              ⟨some 42, none, .rd .lenL [.tmp 41]⟩,
              ⟨some 43, none, .rd .mov [.pv (.int .i64 0)]⟩] L29)
           (.block 3
            (.loop
              (.seq (.region false [⟨some 44, none, .rd (.bin .lss) [.tmp 43, .tmp 42]⟩] L29)
               (.seq (.cond (.tmp 44)
                 (.skip)
                 (.exit 3))
               (.seq (.block 4
                 (.seq (.region false [⟨some 45, none, .rd (.idxAddr none) [.tmp 41, .tmp 43]⟩,
                     ⟨some 46, none, .rd (.load none) [.tmp 45]⟩,
                     ⟨some 9, none, .rd .mov [.tmp 46]⟩] L29)
                  (.seq (.seq (.region false [⟨some 47, none, .rd .mov [.tmp 9]⟩,
                      ⟨some 48, none, .rd (.bin .lss) [.tmp 47, .pv (.int .i64 0)]⟩,
                      ⟨some 49, none, .rd .mov [.tmp 48]⟩,
                      ⟨some 50, some (49, false), .rd .mov [.tmp 9]⟩,
                      ⟨some 51, some (49, false), .rd .mov [.tmp 4]⟩,
                      ⟨some 52, some (49, false), .rd (.bin .geq) [.tmp 50, .tmp 51]⟩,
                      ⟨some 53, none, .rd .pick [.tmp 49, .pv (.bool true), .tmp 52]⟩,
                      ⟨some 54, none, .rd .mov [.tmp 53]⟩,
                      ⟨some 55, some (54, false), .rd .mov [.tmp 3]⟩,
                      ⟨some 56, some (54, false), .rd .mov [.tmp 9]⟩,
                      ⟨some 57, some (54, false), .rd (.idxAddr none) [.tmp 55, .tmp 56]⟩,
                      ⟨some 58, some (54, false), .rd (.load none) [.tmp 57]⟩,
                      ⟨some 59, none, .rd .pick [.tmp 54, .pv (.bool true), .tmp 58]⟩] L29)
                   (.cond (.tmp 59)
                    (.seq (.region false [⟨some 2, none, .rd .mov [.pv (.int .i64 8)]⟩] L29)
                     (.ret))
                    (.skip)))
                  (.region false [⟨some 60, none, .rd .mov [.tmp 3]⟩,
                    ⟨some 61, none, .rd .mov [.tmp 9]⟩,
                    ⟨some 62, none, .rd (.idxAddr none) [.tmp 60, .tmp 61]⟩,
                    ⟨none, none, .eff (.store none) [.tmp 62, .pv (.bool true)]⟩] L29))))
               (.region false [⟨some 63, none, .rd (.bin .add) [.tmp 43, .pv (.int .i64 1)]⟩,
                 ⟨some 43, none, .rd .mov [.tmp 63]⟩] L29)))))))
          (.seq (.region false [⟨some 64, none, .rd .mov [.tmp 7]⟩,
             ⟨some 65, none, .rd (.bin .neq) [.tmp 64, .pv (.int .i64 0)]⟩] L29)
          (.cond (.tmp 65)
           (.seq (.region false [⟨some 66, none, .rd .mov [.tmp 7]⟩,
               ⟨some 2, none, .rd .mov [.tmp 66]⟩] L29)
            (.ret))
           (.skip))))))))
       (.region false [⟨some 67, none, .rd (.bin .add) [.tmp 27, .pv (.int .i64 1)]⟩,
         ⟨some 27, none, .rd .mov [.tmp 67]⟩] L29)))))))
  (.seq (.seq (.region false [⟨some 68, none, .rd .mov [.tmp 3]⟩,
      ⟨some 69, none, .rd .mov [.tmp 3]⟩,
      ⟨some 70, none, .rd .lenL [.tmp 69]⟩,
      ⟨some 71, none, .rd (.bin .sub) [.tmp 70, .pv (.int .i64 1)]⟩,
      ⟨some 72, none, .rd (.slc none false true false) [.tmp 68, .tmp 71]⟩,
      ⟨some 73, none, .call (.pv (.fn 61 [] [])) [.tmp 72, .pv (.bool false)]⟩] L29)
   (.cond (.tmp 73)
    (.seq (.region false [⟨some 2, none, .rd .mov [.pv (.int .i64 3)]⟩] L29)
     (.ret))
    (.skip)))
  (.seq (.seq (.region false [⟨some 74, none, .rd (.load (some 1)) [.tmp 1]⟩,
      ⟨some 75, none, .call (.pv (.fn 42 [] [])) [.tmp 74]⟩,
      ⟨some 76, none, .rd (.bin .gtr) [.tmp 75, .pv (.int .i64 16)]⟩] L29)
   (.cond (.tmp 76)
    (.seq (.region false [⟨some 2, none, .rd .mov [.pv (.int .i64 14)]⟩] L29)
     (.ret))
    (.skip)))
  (.seq (.region false [⟨some 2, none, .rd .mov [.pv (.int .i64 0)]⟩] L29)
  (.ret))))))),
  [.tmp 2]⟩

-- wagebook/eval.node
def L38 : List Nat := [0, 1, 2, 4, 5, 7, 8, 12, 21, 30, 41, 50, 59, 69, 82]
def c38 : CF := ⟨89,
  .seq (.region false [⟨some 2, none, .eff (.box (some 4)) [.tmp 0]⟩,
     ⟨some 4, none, .rd .mov [.pv (.int .i64 0)]⟩,
     ⟨some 5, none, .rd .mov [.pv (.bool false)]⟩] L38)
  (.seq (.seq (.region false [⟨some 6, none, .rd (.fldAddr 0) [.tmp 2]⟩,
      ⟨some 7, none, .rd (.load none) [.tmp 6]⟩] L38)
   (.block 0
    (.seq (.region false [⟨some 9, none, .rd (.bin .eql) [.tmp 7, .pv (.int .i64 0)]⟩,
        ⟨some 8, none, .rd .mov [.tmp 9]⟩] L38)
     (.cond (.tmp 8)
      (.seq (.region false [⟨some 10, none, .rd (.fldAddr 1) [.tmp 2]⟩,
          ⟨some 11, none, .rd (.load none) [.tmp 10]⟩,
          ⟨some 4, none, .rd .mov [.tmp 11]⟩,
          ⟨some 5, none, .rd .mov [.pv (.bool true)]⟩] L38)
       (.ret))
      (.seq (.region false [⟨some 13, none, .rd (.bin .eql) [.tmp 7, .pv (.int .i64 2)]⟩,
          ⟨some 12, none, .rd .mov [.tmp 13]⟩] L38)
       (.cond (.tmp 12)
        (.seq (.region true [⟨some 14, none, .rd .mov [.tmp 1]⟩,
            ⟨some 15, none, .rd (.idxAddr none) [.tmp 14, .pv (.int .i64 0)]⟩,
            ⟨some 16, none, .rd (.load none) [.tmp 15]⟩,
            ⟨some 17, none, .rd .mov [.tmp 1]⟩,
            ⟨some 18, none, .rd (.idxAddr none) [.tmp 17, .pv (.int .i64 1)]⟩,
            ⟨some 19, none, .rd (.load none) [.tmp 18]⟩,
            ⟨some 20, none, .rd (.bin .add) [.tmp 16, .tmp 19]⟩,
            ⟨some 4, none, .rd .mov [.tmp 20]⟩,
            ⟨some 5, none, .rd .mov [.pv (.bool true)]⟩] L38)
         (.ret))
        (.seq (.region false [⟨some 22, none, .rd (.bin .eql) [.tmp 7, .pv (.int .i64 3)]⟩,
            ⟨some 21, none, .rd .mov [.tmp 22]⟩] L38)
         (.cond (.tmp 21)
          (.seq (.region true [⟨some 23, none, .rd .mov [.tmp 1]⟩,
              ⟨some 24, none, .rd (.idxAddr none) [.tmp 23, .pv (.int .i64 0)]⟩,
              ⟨some 25, none, .rd (.load none) [.tmp 24]⟩,
              ⟨some 26, none, .rd .mov [.tmp 1]⟩,
              ⟨some 27, none, .rd (.idxAddr none) [.tmp 26, .pv (.int .i64 1)]⟩,
              ⟨some 28, none, .rd (.load none) [.tmp 27]⟩,
              ⟨some 29, none, .rd (.bin .sub) [.tmp 25, .tmp 28]⟩,
              ⟨some 4, none, .rd .mov [.tmp 29]⟩,
              ⟨some 5, none, .rd .mov [.pv (.bool true)]⟩] L38)
           (.ret))
          (.seq (.region false [⟨some 31, none, .rd (.bin .eql) [.tmp 7, .pv (.int .i64 4)]⟩,
              ⟨some 30, none, .rd .mov [.tmp 31]⟩] L38)
           (.cond (.tmp 30)
            (.seq (.region true [⟨some 32, none, .rd .mov [.tmp 1]⟩,
                ⟨some 33, none, .rd (.idxAddr none) [.tmp 32, .pv (.int .i64 0)]⟩,
                ⟨some 34, none, .rd (.load none) [.tmp 33]⟩,
                ⟨some 35, none, .rd .mov [.tmp 1]⟩,
                ⟨some 36, none, .rd (.idxAddr none) [.tmp 35, .pv (.int .i64 1)]⟩,
                ⟨some 37, none, .rd (.load none) [.tmp 36]⟩,
                ⟨some 38, none, .call (.pv (.fn 69 [] [])) [.tmp 34, .tmp 37]⟩,
                ⟨some 39, none, .rd (.ext 0) [.tmp 38]⟩,
                ⟨some 40, none, .rd (.ext 1) [.tmp 38]⟩,
                ⟨some 4, none, .rd .mov [.tmp 39]⟩,
                ⟨some 5, none, .rd .mov [.tmp 40]⟩] L38)
             (.ret))
            (.seq (.region false [⟨some 42, none, .rd (.bin .eql) [.tmp 7, .pv (.int .i64 5)]⟩,
                ⟨some 41, none, .rd .mov [.tmp 42]⟩] L38)
             (.cond (.tmp 41)
              (.seq (.region true [⟨some 43, none, .rd .mov [.tmp 1]⟩,
                  ⟨some 44, none, .rd (.idxAddr none) [.tmp 43, .pv (.int .i64 0)]⟩,
                  ⟨some 45, none, .rd (.load none) [.tmp 44]⟩,
                  ⟨some 46, none, .rd .mov [.tmp 1]⟩,
                  ⟨some 47, none, .rd (.idxAddr none) [.tmp 46, .pv (.int .i64 1)]⟩,
                  ⟨some 48, none, .rd (.load none) [.tmp 47]⟩,
                  ⟨some 49, none, .rd .min [.tmp 45, .tmp 48]⟩,
                  ⟨some 4, none, .rd .mov [.tmp 49]⟩,
                  ⟨some 5, none, .rd .mov [.pv (.bool true)]⟩] L38)
               (.ret))
              (.seq (.region false [⟨some 51, none, .rd (.bin .eql) [.tmp 7, .pv (.int .i64 6)]⟩,
                  ⟨some 50, none, .rd .mov [.tmp 51]⟩] L38)
               (.cond (.tmp 50)
                (.seq (.region true [⟨some 52, none, .rd .mov [.tmp 1]⟩,
                    ⟨some 53, none, .rd (.idxAddr none) [.tmp 52, .pv (.int .i64 0)]⟩,
                    ⟨some 54, none, .rd (.load none) [.tmp 53]⟩,
                    ⟨some 55, none, .rd .mov [.tmp 1]⟩,
                    ⟨some 56, none, .rd (.idxAddr none) [.tmp 55, .pv (.int .i64 1)]⟩,
                    ⟨some 57, none, .rd (.load none) [.tmp 56]⟩,
                    ⟨some 58, none, .rd .max [.tmp 54, .tmp 57]⟩,
                    ⟨some 4, none, .rd .mov [.tmp 58]⟩,
                    ⟨some 5, none, .rd .mov [.pv (.bool true)]⟩] L38)
                 (.ret))
                (.seq (.region false [⟨some 60, none, .rd (.bin .eql) [.tmp 7, .pv (.int .i64 8)]⟩,
                    ⟨some 59, none, .rd .mov [.tmp 60]⟩] L38)
                 (.cond (.tmp 59)
                  (.seq (.region true [⟨some 61, none, .rd .mov [.tmp 1]⟩,
                      ⟨some 62, none, .rd (.idxAddr none) [.tmp 61, .pv (.int .i64 0)]⟩,
                      ⟨some 63, none, .rd (.load none) [.tmp 62]⟩,
                      ⟨some 64, none, .rd .mov [.tmp 1]⟩,
                      ⟨some 65, none, .rd (.idxAddr none) [.tmp 64, .pv (.int .i64 1)]⟩,
                      ⟨some 66, none, .rd (.load none) [.tmp 65]⟩,
                      ⟨some 67, none, .rd (.bin .lss) [.tmp 63, .tmp 66]⟩,
                      ⟨some 68, none, .call (.pv (.fn 70 [] [])) [.tmp 67]⟩,
                      ⟨some 4, none, .rd .mov [.tmp 68]⟩,
                      ⟨some 5, none, .rd .mov [.pv (.bool true)]⟩] L38)
                   (.ret))
                  (.seq (.region false [⟨some 70, none, .rd (.bin .eql) [.tmp 7, .pv (.int .i64 9)]⟩,
                      ⟨some 69, none, .rd .mov [.tmp 70]⟩] L38)
                   (.cond (.tmp 69)
                    (.seq (.region true [⟨some 71, none, .rd .mov [.tmp 1]⟩,
                        ⟨some 72, none, .rd (.idxAddr none) [.tmp 71, .pv (.int .i64 0)]⟩,
                        ⟨some 73, none, .rd (.load none) [.tmp 72]⟩,
                        ⟨some 74, none, .rd .mov [.tmp 1]⟩,
                        ⟨some 75, none, .rd (.idxAddr none) [.tmp 74, .pv (.int .i64 1)]⟩,
                        ⟨some 76, none, .rd (.load none) [.tmp 75]⟩,
                        ⟨some 77, none, .rd (.bin .eql) [.tmp 73, .tmp 76]⟩,
                        ⟨some 78, none, .call (.pv (.fn 70 [] [])) [.tmp 77]⟩,
                        ⟨some 4, none, .rd .mov [.tmp 78]⟩,
                        ⟨some 5, none, .rd .mov [.pv (.bool true)]⟩] L38)
                     (.ret))
                    (.skip)))))))))))))))))))
  (.seq (.seq (.region false [⟨some 79, none, .rd .mov [.tmp 1]⟩,
      ⟨some 80, none, .rd (.idxAddr none) [.tmp 79, .pv (.int .i64 0)]⟩,
      ⟨some 81, none, .rd (.load none) [.tmp 80]⟩,
      ⟨some 82, none, .rd (.bin .neq) [.tmp 81, .pv (.int .i64 0)]⟩] L38)
   (.cond (.tmp 82)
    (.seq (.region false [⟨some 83, none, .rd .mov [.tmp 1]⟩,
        ⟨some 84, none, .rd (.idxAddr none) [.tmp 83, .pv (.int .i64 1)]⟩,
        ⟨some 85, none, .rd (.load none) [.tmp 84]⟩,
        ⟨some 4, none, .rd .mov [.tmp 85]⟩,
        ⟨some 5, none, .rd .mov [.pv (.bool true)]⟩] L38)
     (.ret))
    (.skip)))
  (.seq (.region false [⟨some 86, none, .rd .mov [.tmp 1]⟩,
     ⟨some 87, none, .rd (.idxAddr none) [.tmp 86, .pv (.int .i64 2)]⟩,
     ⟨some 88, none, .rd (.load none) [.tmp 87]⟩,
     ⟨some 4, none, .rd .mov [.tmp 88]⟩,
     ⟨some 5, none, .rd .mov [.pv (.bool true)]⟩] L38)
  (.ret)))),
  [.tmp 4, .tmp 5]⟩

-- wagebook/eval.fits
def L39 : List Nat := [0, 2]
def c39 : CF := ⟨9,
  .seq (.region false [⟨some 2, none, .rd .mov [.pv (.bool false)]⟩] L39)
  (.seq (.region false [⟨some 3, none, .rd .mov [.tmp 0]⟩,
     ⟨some 4, none, .rd (.bin .geq) [.tmp 3, .pv (.int .i64 (-1000000000000000000))]⟩,
     ⟨some 5, none, .rd .mov [.tmp 4]⟩,
     ⟨some 6, some (5, true), .rd .mov [.tmp 0]⟩,
     ⟨some 7, some (5, true), .rd (.bin .leq) [.tmp 6, .pv (.int .i64 1000000000000000000)]⟩,
     ⟨some 8, none, .rd .pick [.tmp 5, .tmp 7, .pv (.bool false)]⟩,
     ⟨some 2, none, .rd .mov [.tmp 8]⟩] L39)
  (.ret)),
  [.tmp 2]⟩

-- (wagebook/expr.Tree).depth
def L42 : List Nat := [0, 1, 2, 3, 4, 5, 7, 13, 14, 15, 16, 21, 22, 23, 24]
def c42 : CF := ⟨53,
  .seq (.region false [⟨some 1, none, .eff (.box (some 1)) [.tmp 0]⟩,
     ⟨some 2, none, .rd .mov [.pv (.int .i64 0)]⟩] L42)
  (.seq (.region false [⟨some 8, none, .rd (.fldAddr 0) [.tmp 1]⟩,
     ⟨some 9, none, .rd (.load none) [.tmp 8]⟩,
     ⟨some 10, none, .rd .lenL [.tmp 9]⟩,
     ⟨some 11, none, .eff (.make none (.int .i64 0) 8) [.tmp 10, .tmp 10]⟩,
     ⟨some 3, none, .rd .mov [.tmp 11]⟩] L42)
  (.seq (.seq (.region false [⟨some 12, none, .rd (.fldAddr 0) [.tmp 1]⟩,
      ⟨some 13, none, .rd (.load none) [.tmp 12]⟩,
      ⟨some 14, none, .rd .lenL [.tmp 13]⟩,
      ⟨some 15, none, .rd .mov [.pv (.int .i64 0)]⟩] L42)
   (.block 0
    (.loop
      (.seq (.region false [⟨some 16, none, .rd (.bin .lss) [.tmp 15, .tmp 14]⟩] L42)
       (.seq (.cond (.tmp 16)
         (.skip)
         (.exit 0))
       (.seq (.block 1
         (.seq (.region false [⟨some 17, none, .rd .mov [.tmp 15]⟩,
             ⟨some 18, none, .rd (.idxAddr (some 4)) [.tmp 13, .tmp 15]⟩,
             ⟨some 19, none, .rd (.load (some 4)) [.tmp 18]⟩,
             ⟨some 5, none, .eff (.alloc (some 4) (.agg [(.int .i64 0), (.int .i64 0), (.str []), .nilSl])) []⟩,
             ⟨some 4, none, .rd .mov [.tmp 17]⟩,
             ⟨none, none, .eff (.store (some 4)) [.tmp 5, .tmp 19]⟩] L42)
          (.seq (.seq (.region false [⟨some 20, none, .rd (.fldAddr 3) [.tmp 5]⟩,
              ⟨some 21, none, .rd (.load none) [.tmp 20]⟩,
              ⟨some 22, none, .rd .lenL [.tmp 21]⟩,
              ⟨some 23, none, .rd .mov [.pv (.int .i64 0)]⟩] L42)
           (.block 2
            (.loop
              (.seq (.region false [⟨some 24, none, .rd (.bin .lss) [.tmp 23, .tmp 22]⟩] L42)
               (.seq (.cond (.tmp 24)
                 (.skip)
                 (.exit 2))
               (.seq (.block 3
                 (.seq (.region false [⟨some 25, none, .rd (.idxAddr none) [.tmp 21, .tmp 23]⟩,
                     ⟨some 26, none, .rd (.load none) [.tmp 25]⟩,
                     ⟨some 7, none, .rd .mov [.tmp 26]⟩] L42)
                  (.regionA (.alt [⟨some 27, none, .rd .mov [.tmp 3]⟩,
                     ⟨some 28, none, .rd .mov [.tmp 4]⟩,
                     ⟨some 29, none, .rd .mov [.tmp 3]⟩,
                     ⟨some 30, none, .rd .mov [.tmp 4]⟩,
                     ⟨some 31, none, .rd (.idxAddr none) [.tmp 29, .tmp 30]⟩,
                     ⟨some 33, none, .rd .mov [.tmp 3]⟩,
                     ⟨some 34, none, .rd .mov [.tmp 7]⟩,
                     ⟨some 35, none, .rd (.idxAddr none) [.tmp 33, .tmp 34]⟩]
                    (.alt [⟨some 32, none, .rd (.load none) [.tmp 31]⟩,
                      ⟨some 36, none, .rd (.load none) [.tmp 35]⟩,
                      ⟨some 37, none, .rd .max [.tmp 32, .tmp 36]⟩,
                      ⟨some 38, none, .rd (.idxAddr none) [.tmp 27, .tmp 28]⟩,
                      ⟨none, none, .eff (.store none) [.tmp 38, .tmp 37]⟩]
                     .done
                     (.alt [⟨some 36, none, .rd (.load none) [.tmp 35]⟩,
                       ⟨some 32, none, .rd (.load none) [.tmp 31]⟩,
                       ⟨some 37, none, .rd .max [.tmp 32, .tmp 36]⟩,
                       ⟨some 38, none, .rd (.idxAddr none) [.tmp 27, .tmp 28]⟩,
                       ⟨none, none, .eff (.store none) [.tmp 38, .tmp 37]⟩]
                      .done
                      .stop))
                    .stop) L42)))
               (.region false [⟨some 39, none, .rd (.bin .add) [.tmp 23, .pv (.int .i64 1)]⟩,
                 ⟨some 23, none, .rd .mov [.tmp 39]⟩] L42)))))))
          (.region false [⟨some 40, none, .rd .mov [.tmp 3]⟩,
            ⟨some 41, none, .rd .mov [.tmp 4]⟩,
            ⟨some 42, none, .rd (.idxAddr none) [.tmp 40, .tmp 41]⟩,
            ⟨some 43, none, .rd (.load none) [.tmp 42]⟩,
            ⟨some 44, none, .rd (.bin .add) [.tmp 43, .pv (.int .i64 1)]⟩,
            ⟨some 45, none, .rd (.idxAddr none) [.tmp 40, .tmp 41]⟩,
            ⟨none, none, .eff (.store none) [.tmp 45, .tmp 44]⟩] L42))))
       (.region false [⟨some 46, none, .rd (.bin .add) [.tmp 15, .pv (.int .i64 1)]⟩,
         ⟨some 15, none, .rd .mov [.tmp 46]⟩] L42)))))))
  (.seq (.region false [⟨some 47, none, .rd .mov [.tmp 3]⟩,
     ⟨some 48, none, .rd .mov [.tmp 3]⟩,
     ⟨some 49, none, .rd .lenL [.tmp 48]⟩,
     ⟨some 50, none, .rd (.bin .sub) [.tmp 49, .pv (.int .i64 1)]⟩,
     ⟨some 51, none, .rd (.idxAddr none) [.tmp 47, .tmp 50]⟩,
     ⟨some 52, none, .rd (.load none) [.tmp 51]⟩,
     ⟨some 2, none, .rd .mov [.tmp 52]⟩] L42)
  (.ret)))),
  [.tmp 2]⟩

-- wagebook/lex.digit
def L44 : List Nat := [0, 2]
def c44 : CF := ⟨9,
  .seq (.region false [⟨some 2, none, .rd .mov [.pv (.bool false)]⟩] L44)
  (.seq (.region false [⟨some 3, none, .rd .mov [.tmp 0]⟩,
     ⟨some 4, none, .rd (.bin .geq) [.tmp 3, .pv (.int .u8 48)]⟩,
     ⟨some 5, none, .rd .mov [.tmp 4]⟩,
     ⟨some 6, some (5, true), .rd .mov [.tmp 0]⟩,
     ⟨some 7, some (5, true), .rd (.bin .leq) [.tmp 6, .pv (.int .u8 57)]⟩,
     ⟨some 8, none, .rd .pick [.tmp 5, .tmp 7, .pv (.bool false)]⟩,
     ⟨some 2, none, .rd .mov [.tmp 8]⟩] L44)
  (.ret)),
  [.tmp 2]⟩

-- wagebook/lex.run
def L46 : List Nat := [0, 1, 2, 6, 7, 22]
def c46 : CF := ⟨26,
  .seq (.region false [⟨some 6, none, .rd .mov [.pv (.int .i64 0)]⟩] L46)
  (.seq (.region false [⟨some 7, none, .rd .mov [.pv (.int .i64 0)]⟩] L46)
  (.seq (.block 0
    (.loop
      (.seq (.seq (.region false [⟨some 8, none, .rd .mov [.tmp 1]⟩,
           ⟨some 9, none, .rd .mov [.tmp 7]⟩,
           ⟨some 10, none, .rd (.bin .add) [.tmp 8, .tmp 9]⟩,
           ⟨some 11, none, .rd .mov [.tmp 0]⟩,
           ⟨some 12, none, .rd .lenS [.tmp 11]⟩,
           ⟨some 13, none, .rd (.bin .lss) [.tmp 10, .tmp 12]⟩,
           ⟨some 14, none, .rd .mov [.tmp 13]⟩,
           ⟨some 15, some (14, true), .rd .mov [.tmp 2]⟩,
           ⟨some 16, some (14, true), .rd .mov [.tmp 0]⟩,
           ⟨some 17, some (14, true), .rd .mov [.tmp 1]⟩,
           ⟨some 18, some (14, true), .rd .mov [.tmp 7]⟩,
           ⟨some 19, some (14, true), .rd (.bin .add) [.tmp 17, .tmp 18]⟩,
           ⟨some 20, some (14, true), .rd .idxS [.tmp 16, .tmp 19]⟩,
           ⟨some 21, some (14, true), .call (.tmp 15) [.tmp 20]⟩,
           ⟨some 22, none, .rd .pick [.tmp 14, .tmp 21, .pv (.bool false)]⟩] L46)
        (.cond (.tmp 22)
         (.skip)
         (.exit 0)))
       (.block 1
        (.region false [⟨some 23, none, .rd .mov [.tmp 7]⟩,
           ⟨some 24, none, .rd (.bin .add) [.tmp 23, .pv (.int .i64 1)]⟩,
           ⟨some 7, none, .rd .mov [.tmp 24]⟩] L46)))))
  (.seq (.region false [⟨some 25, none, .rd .mov [.tmp 7]⟩,
     ⟨some 6, none, .rd .mov [.tmp 25]⟩] L46)
  (.ret)))),
  [.tmp 6]⟩

-- wagebook/lex.IsName
def L53 : List Nat := [0, 2]
def c53 : CF := ⟨22,
  .seq (.region false [⟨some 2, none, .rd .mov [.pv (.bool false)]⟩] L53)
  (.seq (.region false [⟨some 3, none, .rd .mov [.tmp 0]⟩,
     ⟨some 4, none, .rd (.bin .neq) [.tmp 3, .pv (.str [])]⟩,
     ⟨some 5, none, .rd .mov [.tmp 4]⟩,
     ⟨some 6, some (5, true), .rd .mov [.tmp 0]⟩,
     ⟨some 7, some (5, true), .rd .lenS [.tmp 6]⟩,
     ⟨some 8, some (5, true), .rd (.bin .leq) [.tmp 7, .pv (.int .i64 32)]⟩,
     ⟨some 9, none, .rd .pick [.tmp 5, .tmp 8, .pv (.bool false)]⟩,
     ⟨some 10, none, .rd .mov [.tmp 9]⟩,
     ⟨some 11, some (10, true), .rd .mov [.tmp 0]⟩,
     ⟨some 12, some (10, true), .rd .idxS [.tmp 11, .pv (.int .i64 0)]⟩,
     ⟨some 13, some (10, true), .call (.pv (.fn 74 [] [])) [.tmp 12]⟩,
     ⟨some 14, none, .rd .pick [.tmp 10, .tmp 13, .pv (.bool false)]⟩,
     ⟨some 15, none, .rd .mov [.tmp 14]⟩,
     ⟨some 16, some (15, true), .rd .mov [.tmp 0]⟩,
     ⟨some 17, some (15, true), .call (.pv (.fn 46 [] [])) [.tmp 16, .pv (.int .i64 0), .pv (.fn 84 [] [])]⟩,
     ⟨some 18, some (15, true), .rd .mov [.tmp 0]⟩,
     ⟨some 19, some (15, true), .rd .lenS [.tmp 18]⟩,
     ⟨some 20, some (15, true), .rd (.bin .eql) [.tmp 17, .tmp 19]⟩,
     ⟨some 21, none, .rd .pick [.tmp 15, .tmp 20, .pv (.bool false)]⟩,
     ⟨some 2, none, .rd .mov [.tmp 21]⟩] L53)
  (.ret)),
  [.tmp 2]⟩

-- (wagebook/expr.Node).check
def L60 : List Nat := [0, 1, 2, 3, 4, 5, 6, 15, 24, 52]
def c60 : CF := ⟨72,
  .seq (.region false [⟨some 1, none, .eff (.box (some 4)) [.tmp 0]⟩,
     ⟨some 2, none, .rd .mov [.pv (.int .i64 0)]⟩,
     ⟨some 3, none, .rd .mov [.pv (.int .i64 0)]⟩] L60)
  (.seq (.region false [⟨some 4, none, .rd .mov [.pv (.int .i64 0)]⟩,
     ⟨some 5, none, .rd .mov [.pv (.int .i64 0)]⟩] L60)
  (.seq (.block 0
    (.seq (.region false [⟨some 7, none, .rd (.fldAddr 0) [.tmp 1]⟩,
        ⟨some 8, none, .rd (.load none) [.tmp 7]⟩,
        ⟨some 9, none, .rd (.bin .lss) [.tmp 8, .pv (.int .i64 0)]⟩,
        ⟨some 10, none, .rd .mov [.tmp 9]⟩,
        ⟨some 11, some (10, false), .rd (.fldAddr 0) [.tmp 1]⟩,
        ⟨some 12, some (10, false), .rd (.load none) [.tmp 11]⟩,
        ⟨some 13, some (10, false), .rd (.bin .gtr) [.tmp 12, .pv (.int .i64 9)]⟩,
        ⟨some 14, none, .rd .pick [.tmp 10, .pv (.bool true), .tmp 13]⟩,
        ⟨some 6, none, .rd .mov [.tmp 14]⟩] L60)
     (.cond (.tmp 6)
      (.seq (.region false [⟨some 2, none, .rd .mov [.pv (.int .i64 11)]⟩,
          ⟨some 3, none, .rd .mov [.pv (.int .i64 0)]⟩] L60)
       (.ret))
      (.seq (.region true [⟨some 16, none, .rd (.fldAddr 3) [.tmp 1]⟩,
          ⟨some 17, none, .rd (.load none) [.tmp 16]⟩,
          ⟨some 18, none, .rd .lenL [.tmp 17]⟩,
          ⟨some 19, none, .rd (.fldAddr 0) [.tmp 1]⟩,
          ⟨some 20, none, .rd (.load none) [.tmp 19]⟩,
          ⟨some 21, none, .rd (.idxAddrA 10 none) [.glob 1, .tmp 20]⟩,
          ⟨some 22, none, .rd (.load none) [.tmp 21]⟩,
          ⟨some 23, none, .rd (.bin .neq) [.tmp 18, .tmp 22]⟩,
          ⟨some 15, none, .rd .mov [.tmp 23]⟩] L60)
       (.cond (.tmp 15)
        (.region false [⟨some 4, none, .rd .mov [.pv (.int .i64 3)]⟩] L60)
        (.skip))))))
  (.seq (.block 1
    (.seq (.seq (.region false [⟨some 25, none, .rd (.fldAddr 0) [.tmp 1]⟩,
         ⟨some 26, none, .rd (.load none) [.tmp 25]⟩,
         ⟨some 27, none, .rd (.bin .eql) [.tmp 26, .pv (.int .i64 0)]⟩,
         ⟨some 28, none, .rd .mov [.tmp 27]⟩,
         ⟨some 29, some (28, true), .rd (.fldAddr 1) [.tmp 1]⟩,
         ⟨some 30, some (28, true), .rd (.load none) [.tmp 29]⟩,
         ⟨some 31, some (28, true), .rd (.bin .lss) [.tmp 30, .pv (.int .i64 0)]⟩,
         ⟨some 32, some (28, true), .rd .mov [.tmp 31]⟩,
         ⟨some 33, some (32, false), .rd (.fldAddr 1) [.tmp 1]⟩,
         ⟨some 34, some (32, false), .rd (.load none) [.tmp 33]⟩,
         ⟨some 35, some (32, false), .rd (.bin .gtr) [.tmp 34, .pv (.int .i64 1000000000000000000)]⟩,
         ⟨some 36, some (28, true), .rd .pick [.tmp 32, .pv (.bool true), .tmp 35]⟩,
         ⟨some 37, some (28, true), .rd .mov [.tmp 36]⟩,
         ⟨some 38, some (37, false), .rd (.fldAddr 1) [.tmp 1]⟩,
         ⟨some 39, some (37, false), .rd (.load none) [.tmp 38]⟩,
         ⟨some 40, some (37, false), .rd (.bin .rem) [.tmp 39, .pv (.int .i64 100)]⟩,
         ⟨some 41, some (37, false), .rd (.bin .neq) [.tmp 40, .pv (.int .i64 0)]⟩,
         ⟨some 42, some (28, true), .rd .pick [.tmp 37, .pv (.bool true), .tmp 41]⟩,
         ⟨some 43, none, .rd .pick [.tmp 28, .tmp 42, .pv (.bool false)]⟩,
         ⟨some 24, none, .rd .mov [.tmp 43]⟩] L60)
      (.cond (.tmp 24)
       (.skip)
       (.region false [⟨some 44, none, .rd (.fldAddr 0) [.tmp 1]⟩,
          ⟨some 45, none, .rd (.load none) [.tmp 44]⟩,
          ⟨some 46, none, .rd (.bin .neq) [.tmp 45, .pv (.int .i64 0)]⟩,
          ⟨some 47, none, .rd .mov [.tmp 46]⟩,
          ⟨some 48, some (47, true), .rd (.fldAddr 1) [.tmp 1]⟩,
          ⟨some 49, some (47, true), .rd (.load none) [.tmp 48]⟩,
          ⟨some 50, some (47, true), .rd (.bin .neq) [.tmp 49, .pv (.int .i64 0)]⟩,
          ⟨some 51, none, .rd .pick [.tmp 47, .tmp 50, .pv (.bool false)]⟩,
          ⟨some 24, none, .rd .mov [.tmp 51]⟩] L60)))
     (.cond (.tmp 24)
      (.region false [⟨some 5, none, .rd .mov [.pv (.int .i64 2)]⟩] L60)
      (.seq (.seq (.region false [⟨some 53, none, .rd (.fldAddr 0) [.tmp 1]⟩,
           ⟨some 54, none, .rd (.load none) [.tmp 53]⟩,
           ⟨some 55, none, .rd (.bin .eql) [.tmp 54, .pv (.int .i64 1)]⟩,
           ⟨some 56, none, .rd .mov [.tmp 55]⟩,
           ⟨some 57, some (56, true), .rd (.fldAddr 2) [.tmp 1]⟩,
           ⟨some 58, some (56, true), .rd (.load none) [.tmp 57]⟩,
           ⟨some 59, some (56, true), .call (.pv (.fn 53 [] [])) [.tmp 58]⟩,
           ⟨some 60, some (56, true), .rd (.un .not) [.tmp 59]⟩,
           ⟨some 61, none, .rd .pick [.tmp 56, .tmp 60, .pv (.bool false)]⟩,
           ⟨some 52, none, .rd .mov [.tmp 61]⟩] L60)
        (.cond (.tmp 52)
         (.skip)
         (.region false [⟨some 62, none, .rd (.fldAddr 0) [.tmp 1]⟩,
            ⟨some 63, none, .rd (.load none) [.tmp 62]⟩,
            ⟨some 64, none, .rd (.bin .neq) [.tmp 63, .pv (.int .i64 1)]⟩,
            ⟨some 65, none, .rd .mov [.tmp 64]⟩,
            ⟨some 66, some (65, true), .rd (.fldAddr 2) [.tmp 1]⟩,
            ⟨some 67, some (65, true), .rd (.load none) [.tmp 66]⟩,
            ⟨some 68, some (65, true), .rd (.bin .neq) [.tmp 67, .pv (.str [])]⟩,
            ⟨some 69, none, .rd .pick [.tmp 65, .tmp 68, .pv (.bool false)]⟩,
            ⟨some 52, none, .rd .mov [.tmp 69]⟩] L60)))
       (.cond (.tmp 52)
        (.region false [⟨some 5, none, .rd .mov [.pv (.int .i64 12)]⟩] L60)
        (.skip))))))
  (.seq (.region false [⟨some 70, none, .rd .mov [.tmp 4]⟩,
     ⟨some 71, none, .rd .mov [.tmp 5]⟩,
     ⟨some 2, none, .rd .mov [.tmp 70]⟩,
     ⟨some 3, none, .rd .mov [.tmp 71]⟩] L60)
  (.ret))))),
  [.tmp 2, .tmp 3]⟩

-- slices.Contains[[]bool,bool]
def L61 : List Nat := [0, 1, 4]
def c61 : CF := ⟨9,
  .seq (.region false [⟨some 4, none, .rd .mov [.pv (.bool false)]⟩] L61)
  (.seq (.region false [⟨some 5, none, .rd .mov [.tmp 0]⟩,
     ⟨some 6, none, .rd .mov [.tmp 1]⟩,
     ⟨some 7, none, .call (.pv (.fn 89 [] [])) [.tmp 5, .tmp 6]⟩,
     ⟨some 8, none, .rd (.bin .geq) [.tmp 7, .pv (.int .i64 0)]⟩,
     ⟨some 4, none, .rd .mov [.tmp 8]⟩] L61)
  (.ret)),
  [.tmp 4]⟩

-- wagebook/eval.times
def L69 : List Nat := [0, 1, 4, 5, 6, 7, 8, 9, 19, 28, 32, 37]
def c69 : CF := ⟨43,
  .seq (.region false [⟨some 4, none, .rd .mov [.pv (.int .i64 0)]⟩,
     ⟨some 5, none, .rd .mov [.pv (.bool false)]⟩] L69)
  (.seq (.region false [⟨some 11, none, .rd .mov [.tmp 0]⟩,
     ⟨some 12, none, .call (.pv (.fn 96 [] [])) [.tmp 11]⟩,
     ⟨some 13, none, .rd .mov [.tmp 1]⟩,
     ⟨some 14, none, .call (.pv (.fn 96 [] [])) [.tmp 13]⟩,
     ⟨some 15, none, .call (.pv (.fn 95 [] [])) [.tmp 12, .tmp 14]⟩,
     ⟨some 10, none, .rd .mov [.tmp 15]⟩,
     ⟨some 16, none, .rd (.ext 0) [.tmp 10]⟩,
     ⟨some 17, none, .rd (.ext 1) [.tmp 10]⟩,
     ⟨some 6, none, .rd .mov [.tmp 16]⟩,
     ⟨some 7, none, .rd .mov [.tmp 17]⟩] L69)
  (.seq (.seq (.region false [⟨some 18, none, .rd .mov [.tmp 6]⟩,
      ⟨some 19, none, .rd (.bin .geq) [.tmp 18, .pv (.int .u64 1000000)]⟩] L69)
   (.cond (.tmp 19)
    (.seq (.region false [⟨some 4, none, .rd .mov [.pv (.int .i64 0)]⟩,
        ⟨some 5, none, .rd .mov [.pv (.bool false)]⟩] L69)
     (.ret))
    (.skip)))
  (.seq (.region false [⟨some 21, none, .rd .mov [.tmp 6]⟩,
     ⟨some 22, none, .rd .mov [.tmp 7]⟩,
     ⟨some 23, none, .call (.pv (.fn 97 [] [])) [.tmp 21, .tmp 22, .pv (.int .u64 1000000)]⟩,
     ⟨some 20, none, .rd .mov [.tmp 23]⟩,
     ⟨some 24, none, .rd (.ext 0) [.tmp 20]⟩,
     ⟨some 25, none, .rd (.ext 1) [.tmp 20]⟩,
     ⟨some 8, none, .rd .mov [.tmp 24]⟩,
     ⟨some 9, none, .rd .mov [.tmp 25]⟩] L69)
  (.seq (.seq (.region false [⟨some 26, none, .rd .mov [.tmp 9]⟩,
      ⟨some 27, none, .rd (.bin .mul) [.pv (.int .u64 2), .tmp 26]⟩,
      ⟨some 28, none, .rd (.bin .geq) [.tmp 27, .pv (.int .u64 1000000)]⟩] L69)
   (.cond (.tmp 28)
    (.region false [⟨some 29, none, .rd .mov [.tmp 8]⟩,
       ⟨some 30, none, .rd (.bin .add) [.tmp 29, .pv (.int .u64 1)]⟩,
       ⟨some 8, none, .rd .mov [.tmp 30]⟩] L69)
    (.skip)))
  (.seq (.seq (.region false [⟨some 31, none, .rd .mov [.tmp 8]⟩,
      ⟨some 32, none, .rd (.bin .gtr) [.tmp 31, .pv (.int .u64 1000000000000000000)]⟩] L69)
   (.cond (.tmp 32)
    (.seq (.region false [⟨some 4, none, .rd .mov [.pv (.int .i64 0)]⟩,
        ⟨some 5, none, .rd .mov [.pv (.bool false)]⟩] L69)
     (.ret))
    (.skip)))
  (.seq (.seq (.region false [⟨some 33, none, .rd .mov [.tmp 0]⟩,
      ⟨some 34, none, .rd (.bin .lss) [.tmp 33, .pv (.int .i64 0)]⟩,
      ⟨some 35, none, .rd .mov [.tmp 1]⟩,
      ⟨some 36, none, .rd (.bin .lss) [.tmp 35, .pv (.int .i64 0)]⟩,
      ⟨some 37, none, .rd (.eqB true) [.tmp 34, .tmp 36]⟩] L69)
   (.cond (.tmp 37)
    (.seq (.region false [⟨some 38, none, .rd .mov [.tmp 8]⟩,
        ⟨some 39, none, .rd (.conv .i64) [.tmp 38]⟩,
        ⟨some 40, none, .rd (.un .neg) [.tmp 39]⟩,
        ⟨some 4, none, .rd .mov [.tmp 40]⟩,
        ⟨some 5, none, .rd .mov [.pv (.bool true)]⟩] L69)
     (.ret))
    (.skip)))
  (.seq (.region false [⟨some 41, none, .rd .mov [.tmp 8]⟩,
     ⟨some 42, none, .rd (.conv .i64) [.tmp 41]⟩,
     ⟨some 4, none, .rd .mov [.tmp 42]⟩,
     ⟨some 5, none, .rd .mov [.pv (.bool true)]⟩] L69)
  (.ret)))))))),
  [.tmp 4, .tmp 5]⟩

-- wagebook/eval.yes
def L70 : List Nat := [0, 2, 3]
def c70 : CF := ⟨4,
  .seq (.region false [⟨some 2, none, .rd .mov [.pv (.int .i64 0)]⟩] L70)
  (.seq (.seq (.region false [⟨some 3, none, .rd .mov [.tmp 0]⟩] L70)
   (.cond (.tmp 3)
    (.seq (.region false [⟨some 2, none, .rd .mov [.pv (.int .i64 1000000)]⟩] L70)
     (.ret))
    (.skip)))
  (.seq (.region false [⟨some 2, none, .rd .mov [.pv (.int .i64 0)]⟩] L70)
  (.ret))),
  [.tmp 2]⟩

-- wagebook/lex.letter
def L74 : List Nat := [0, 2]
def c74 : CF := ⟨9,
  .seq (.region false [⟨some 2, none, .rd .mov [.pv (.bool false)]⟩] L74)
  (.seq (.region false [⟨some 3, none, .rd .mov [.tmp 0]⟩,
     ⟨some 4, none, .rd (.bin .geq) [.tmp 3, .pv (.int .u8 97)]⟩,
     ⟨some 5, none, .rd .mov [.tmp 4]⟩,
     ⟨some 6, some (5, true), .rd .mov [.tmp 0]⟩,
     ⟨some 7, some (5, true), .rd (.bin .leq) [.tmp 6, .pv (.int .u8 122)]⟩,
     ⟨some 8, none, .rd .pick [.tmp 5, .tmp 7, .pv (.bool false)]⟩,
     ⟨some 2, none, .rd .mov [.tmp 8]⟩] L74)
  (.ret)),
  [.tmp 2]⟩

-- wagebook/lex.inName
def L84 : List Nat := [0, 2]
def c84 : CF := ⟨21,
  .seq (.region false [⟨some 2, none, .rd .mov [.pv (.bool false)]⟩] L84)
  (.seq (.region false [⟨some 3, none, .rd .mov [.tmp 0]⟩,
     ⟨some 4, none, .call (.pv (.fn 74 [] [])) [.tmp 3]⟩,
     ⟨some 5, none, .rd .mov [.tmp 4]⟩,
     ⟨some 6, some (5, false), .rd .mov [.tmp 0]⟩,
     ⟨some 7, some (5, false), .call (.pv (.fn 44 [] [])) [.tmp 6]⟩,
     ⟨some 8, none, .rd .pick [.tmp 5, .pv (.bool true), .tmp 7]⟩,
     ⟨some 9, none, .rd .mov [.tmp 8]⟩,
     ⟨some 10, some (9, false), .rd .mov [.tmp 0]⟩,
     ⟨some 11, some (9, false), .rd (.bin .eql) [.tmp 10, .pv (.int .u8 46)]⟩,
     ⟨some 12, none, .rd .pick [.tmp 9, .pv (.bool true), .tmp 11]⟩,
     ⟨some 13, none, .rd .mov [.tmp 12]⟩,
     ⟨some 14, some (13, false), .rd .mov [.tmp 0]⟩,
     ⟨some 15, some (13, false), .rd (.bin .eql) [.tmp 14, .pv (.int .u8 95)]⟩,
     ⟨some 16, none, .rd .pick [.tmp 13, .pv (.bool true), .tmp 15]⟩,
     ⟨some 17, none, .rd .mov [.tmp 16]⟩,
     ⟨some 18, some (17, false), .rd .mov [.tmp 0]⟩,
     ⟨some 19, some (17, false), .rd (.bin .eql) [.tmp 18, .pv (.int .u8 58)]⟩,
     ⟨some 20, none, .rd .pick [.tmp 17, .pv (.bool true), .tmp 19]⟩,
     ⟨some 2, none, .rd .mov [.tmp 20]⟩] L84)
  (.ret)),
  [.tmp 2]⟩

-- slices.Index[[]bool,bool]
def L89 : List Nat := [0, 1, 4, 5, 7, 8, 9, 16]
def c89 : CF := ⟨19,
  .seq (.region false [⟨some 4, none, .rd .mov [.pv (.int .i64 0)]⟩] L89)
  (.seq (.seq (.region false [⟨some 6, none, .rd .mov [.tmp 0]⟩,
      ⟨some 7, none, .rd .lenL [.tmp 6]⟩,
      ⟨some 8, none, .rd .mov [.pv (.int .i64 0)]⟩] L89)
   (.block 0
    (.loop
      (.seq (.region false [⟨some 9, none, .rd (.bin .lss) [.tmp 8, .tmp 7]⟩] L89)
       (.seq (.cond (.tmp 9)
         (.skip)
         (.exit 0))
       (.seq (.block 1
         (.seq (.region false [⟨some 10, none, .rd .mov [.tmp 8]⟩,
             ⟨some 5, none, .rd .mov [.tmp 10]⟩] L89)
          (.seq (.region false [⟨some 11, none, .rd .mov [.tmp 1]⟩,
             ⟨some 12, none, .rd .mov [.tmp 0]⟩,
             ⟨some 13, none, .rd .mov [.tmp 5]⟩,
             ⟨some 14, none, .rd (.idxAddr none) [.tmp 12, .tmp 13]⟩,
             ⟨some 15, none, .rd (.load none) [.tmp 14]⟩,
             ⟨some 16, none, .rd (.eqB false) [.tmp 11, .tmp 15]⟩] L89)
          (.cond (.tmp 16)
           (.seq (.region false [⟨some 17, none, .rd .mov [.tmp 5]⟩,
               ⟨some 4, none, .rd .mov [.tmp 17]⟩] L89)
            (.ret))
           (.skip)))))
       (.region false [⟨some 18, none, .rd (.bin .add) [.tmp 8, .pv (.int .i64 1)]⟩,
         ⟨some 8, none, .rd .mov [.tmp 18]⟩] L89)))))))
  (.seq (.region false [⟨some 4, none, .rd .mov [.pv (.int .i64 (-1))]⟩] L89)
  (.ret))),
  [.tmp 4]⟩

-- math/bits.Mul64
def L95 : List Nat := [0, 1, 4, 5, 6, 7, 8, 9, 10, 11, 12, 13]
def c95 : CF := ⟨51,
  .seq (.region false [⟨some 4, none, .rd .mov [.pv (.int .u64 0)]⟩,
     ⟨some 5, none, .rd .mov [.pv (.int .u64 0)]⟩] L95)
  (.seq (.region false [⟨some 14, none, .rd .mov [.tmp 0]⟩,
     ⟨some 15, none, .rd (.bin .and) [.tmp 14, .pv (.int .u64 4294967295)]⟩,
     ⟨some 6, none, .rd .mov [.tmp 15]⟩] L95)
  (.seq (.region false [⟨some 16, none, .rd .mov [.tmp 0]⟩,
     ⟨some 17, none, .rd (.bin .shr) [.tmp 16, .pv (.int .u64 32)]⟩,
     ⟨some 7, none, .rd .mov [.tmp 17]⟩] L95)
  (.seq (.region false [⟨some 18, none, .rd .mov [.tmp 1]⟩,
     ⟨some 19, none, .rd (.bin .and) [.tmp 18, .pv (.int .u64 4294967295)]⟩,
     ⟨some 8, none, .rd .mov [.tmp 19]⟩] L95)
  (.seq (.region false [⟨some 20, none, .rd .mov [.tmp 1]⟩,
     ⟨some 21, none, .rd (.bin .shr) [.tmp 20, .pv (.int .u64 32)]⟩,
     ⟨some 9, none, .rd .mov [.tmp 21]⟩] L95)
  (.seq (.region false [⟨some 22, none, .rd .mov [.tmp 6]⟩,
     ⟨some 23, none, .rd .mov [.tmp 8]⟩,
     ⟨some 24, none, .rd (.bin .mul) [.tmp 22, .tmp 23]⟩,
     ⟨some 10, none, .rd .mov [.tmp 24]⟩] L95)
  (.seq (.region false [⟨some 25, none, .rd .mov [.tmp 7]⟩,
     ⟨some 26, none, .rd .mov [.tmp 8]⟩,
     ⟨some 27, none, .rd (.bin .mul) [.tmp 25, .tmp 26]⟩,
     ⟨some 28, none, .rd .mov [.tmp 10]⟩,
     ⟨some 29, none, .rd (.bin .shr) [.tmp 28, .pv (.int .u64 32)]⟩,
     ⟨some 30, none, .rd (.bin .add) [.tmp 27, .tmp 29]⟩,
     ⟨some 11, none, .rd .mov [.tmp 30]⟩] L95)
  (.seq (.region false [⟨some 31, none, .rd .mov [.tmp 11]⟩,
     ⟨some 32, none, .rd (.bin .and) [.tmp 31, .pv (.int .u64 4294967295)]⟩,
     ⟨some 12, none, .rd .mov [.tmp 32]⟩] L95)
  (.seq (.region false [⟨some 33, none, .rd .mov [.tmp 11]⟩,
     ⟨some 34, none, .rd (.bin .shr) [.tmp 33, .pv (.int .u64 32)]⟩,
     ⟨some 13, none, .rd .mov [.tmp 34]⟩] L95)
  (.seq (.region false [⟨some 35, none, .rd .mov [.tmp 12]⟩,
     ⟨some 36, none, .rd .mov [.tmp 6]⟩,
     ⟨some 37, none, .rd .mov [.tmp 9]⟩,
     ⟨some 38, none, .rd (.bin .mul) [.tmp 36, .tmp 37]⟩,
     ⟨some 39, none, .rd (.bin .add) [.tmp 35, .tmp 38]⟩,
     ⟨some 12, none, .rd .mov [.tmp 39]⟩] L95)
  (.seq (.region false [⟨some 40, none, .rd .mov [.tmp 7]⟩,
     ⟨some 41, none, .rd .mov [.tmp 9]⟩,
     ⟨some 42, none, .rd (.bin .mul) [.tmp 40, .tmp 41]⟩,
     ⟨some 43, none, .rd .mov [.tmp 13]⟩,
     ⟨some 44, none, .rd (.bin .add) [.tmp 42, .tmp 43]⟩,
     ⟨some 45, none, .rd .mov [.tmp 12]⟩,
     ⟨some 46, none, .rd (.bin .shr) [.tmp 45, .pv (.int .u64 32)]⟩,
     ⟨some 47, none, .rd (.bin .add) [.tmp 44, .tmp 46]⟩,
     ⟨some 4, none, .rd .mov [.tmp 47]⟩] L95)
  (.seq (.region false [⟨some 48, none, .rd .mov [.tmp 0]⟩,
     ⟨some 49, none, .rd .mov [.tmp 1]⟩,
     ⟨some 50, none, .rd (.bin .mul) [.tmp 48, .tmp 49]⟩,
     ⟨some 5, none, .rd .mov [.tmp 50]⟩] L95)
  (.ret)))))))))))),
  [.tmp 4, .tmp 5]⟩

-- wagebook/eval.size
def L96 : List Nat := [0, 2, 4]
def c96 : CF := ⟨10,
  .seq (.region false [⟨some 2, none, .rd .mov [.pv (.int .u64 0)]⟩] L96)
  (.seq (.seq (.region false [⟨some 3, none, .rd .mov [.tmp 0]⟩,
      ⟨some 4, none, .rd (.bin .lss) [.tmp 3, .pv (.int .i64 0)]⟩] L96)
   (.cond (.tmp 4)
    (.seq (.region false [⟨some 5, none, .rd .mov [.tmp 0]⟩,
        ⟨some 6, none, .rd (.un .neg) [.tmp 5]⟩,
        ⟨some 7, none, .rd (.conv .u64) [.tmp 6]⟩,
        ⟨some 2, none, .rd .mov [.tmp 7]⟩] L96)
     (.ret))
    (.skip)))
  (.seq (.region false [⟨some 8, none, .rd .mov [.tmp 0]⟩,
     ⟨some 9, none, .rd (.conv .u64) [.tmp 8]⟩,
     ⟨some 2, none, .rd .mov [.tmp 9]⟩] L96)
  (.ret))),
  [.tmp 2]⟩

-- math/bits.Div64
def L97 : List Nat := [0, 1, 2, 6, 7, 8, 9, 10, 11, 12, 13, 14, 15, 16, 17, 18, 20, 24, 27, 78, 85, 113, 120]
def c97 : CF := ⟨135,
  .seq (.region false [⟨some 6, none, .rd .mov [.pv (.int .u64 0)]⟩,
     ⟨some 7, none, .rd .mov [.pv (.int .u64 0)]⟩] L97)
  (.seq (.seq (.region false [⟨some 19, none, .rd .mov [.tmp 2]⟩,
      ⟨some 20, none, .rd (.bin .eql) [.tmp 19, .pv (.int .u64 0)]⟩] L97)
   (.cond (.tmp 20)
    (.region false [⟨some 21, none, .rd (.load none) [.glob 3]⟩,
       ⟨none, none, .rd .dead [.tmp 21]⟩] L97)
    (.skip)))
  (.seq (.seq (.region false [⟨some 22, none, .rd .mov [.tmp 2]⟩,
      ⟨some 23, none, .rd .mov [.tmp 0]⟩,
      ⟨some 24, none, .rd (.bin .leq) [.tmp 22, .tmp 23]⟩] L97)
   (.cond (.tmp 24)
    (.region false [⟨some 25, none, .rd (.load none) [.glob 4]⟩,
       ⟨none, none, .rd .dead [.tmp 25]⟩] L97)
    (.skip)))
  (.seq (.seq (.region false [⟨some 26, none, .rd .mov [.tmp 0]⟩,
      ⟨some 27, none, .rd (.bin .eql) [.tmp 26, .pv (.int .u64 0)]⟩] L97)
   (.cond (.tmp 27)
    (.seq (.region true [⟨some 28, none, .rd .mov [.tmp 1]⟩,
        ⟨some 29, none, .rd .mov [.tmp 2]⟩,
        ⟨some 30, none, .rd (.bin .quo) [.tmp 28, .tmp 29]⟩,
        ⟨some 31, none, .rd .mov [.tmp 1]⟩,
        ⟨some 32, none, .rd .mov [.tmp 2]⟩,
        ⟨some 33, none, .rd (.bin .rem) [.tmp 31, .tmp 32]⟩,
        ⟨some 6, none, .rd .mov [.tmp 30]⟩,
        ⟨some 7, none, .rd .mov [.tmp 33]⟩] L97)
     (.ret))
    (.skip)))
  (.seq (.region false [⟨some 34, none, .rd .mov [.tmp 2]⟩,
     ⟨some 35, none, .call (.pv (.fn 125 [] [])) [.tmp 34]⟩,
     ⟨some 36, none, .rd (.conv .u64) [.tmp 35]⟩,
     ⟨some 8, none, .rd .mov [.tmp 36]⟩] L97)
  (.seq (.region false [⟨some 37, none, .rd .mov [.tmp 2]⟩,
     ⟨some 38, none, .rd .mov [.tmp 8]⟩,
     ⟨some 39, none, .rd (.bin .shl) [.tmp 37, .tmp 38]⟩,
     ⟨some 2, none, .rd .mov [.tmp 39]⟩] L97)
  (.seq (.region false [⟨some 40, none, .rd .mov [.tmp 2]⟩,
     ⟨some 41, none, .rd (.bin .shr) [.tmp 40, .pv (.int .u64 32)]⟩,
     ⟨some 9, none, .rd .mov [.tmp 41]⟩] L97)
  (.seq (.region false [⟨some 42, none, .rd .mov [.tmp 2]⟩,
     ⟨some 43, none, .rd (.bin .and) [.tmp 42, .pv (.int .u64 4294967295)]⟩,
     ⟨some 10, none, .rd .mov [.tmp 43]⟩] L97)
  (.seq (.region false [⟨some 44, none, .rd .mov [.tmp 0]⟩,
     ⟨some 45, none, .rd .mov [.tmp 8]⟩,
     ⟨some 46, none, .rd (.bin .shl) [.tmp 44, .tmp 45]⟩,
     ⟨some 47, none, .rd .mov [.tmp 1]⟩,
     ⟨some 48, none, .rd .mov [.tmp 8]⟩,
     ⟨some 49, none, .rd (.bin .sub) [.pv (.int .u64 64), .tmp 48]⟩,
     ⟨some 50, none, .rd (.bin .shr) [.tmp 47, .tmp 49]⟩,
     ⟨some 51, none, .rd (.bin .or) [.tmp 46, .tmp 50]⟩,
     ⟨some 11, none, .rd .mov [.tmp 51]⟩] L97)
  (.seq (.region false [⟨some 52, none, .rd .mov [.tmp 1]⟩,
     ⟨some 53, none, .rd .mov [.tmp 8]⟩,
     ⟨some 54, none, .rd (.bin .shl) [.tmp 52, .tmp 53]⟩,
     ⟨some 12, none, .rd .mov [.tmp 54]⟩] L97)
  (.seq (.region false [⟨some 55, none, .rd .mov [.tmp 12]⟩,
     ⟨some 56, none, .rd (.bin .shr) [.tmp 55, .pv (.int .u64 32)]⟩,
     ⟨some 13, none, .rd .mov [.tmp 56]⟩] L97)
  (.seq (.region false [⟨some 57, none, .rd .mov [.tmp 12]⟩,
     ⟨some 58, none, .rd (.bin .and) [.tmp 57, .pv (.int .u64 4294967295)]⟩,
     ⟨some 14, none, .rd .mov [.tmp 58]⟩] L97)
  (.seq (.region false [⟨some 59, none, .rd .mov [.tmp 11]⟩,
     ⟨some 60, none, .rd .mov [.tmp 9]⟩,
     ⟨some 61, none, .rd (.bin .quo) [.tmp 59, .tmp 60]⟩,
     ⟨some 15, none, .rd .mov [.tmp 61]⟩] L97)
  (.seq (.region false [⟨some 62, none, .rd .mov [.tmp 11]⟩,
     ⟨some 63, none, .rd .mov [.tmp 15]⟩,
     ⟨some 64, none, .rd .mov [.tmp 9]⟩,
     ⟨some 65, none, .rd (.bin .mul) [.tmp 63, .tmp 64]⟩,
     ⟨some 66, none, .rd (.bin .sub) [.tmp 62, .tmp 65]⟩,
     ⟨some 16, none, .rd .mov [.tmp 66]⟩] L97)
  (.seq (.block 0
    (.loop
      (.seq (.seq (.region false [⟨some 67, none, .rd .mov [.tmp 15]⟩,
           ⟨some 68, none, .rd (.bin .geq) [.tmp 67, .pv (.int .u64 4294967296)]⟩,
           ⟨some 69, none, .rd .mov [.tmp 68]⟩,
           ⟨some 70, some (69, false), .rd .mov [.tmp 15]⟩,
           ⟨some 71, some (69, false), .rd .mov [.tmp 10]⟩,
           ⟨some 72, some (69, false), .rd (.bin .mul) [.tmp 70, .tmp 71]⟩,
           ⟨some 73, some (69, false), .rd .mov [.tmp 16]⟩,
           ⟨some 74, some (69, false), .rd (.bin .mul) [.pv (.int .u64 4294967296), .tmp 73]⟩,
           ⟨some 75, some (69, false), .rd .mov [.tmp 13]⟩,
           ⟨some 76, some (69, false), .rd (.bin .add) [.tmp 74, .tmp 75]⟩,
           ⟨some 77, some (69, false), .rd (.bin .gtr) [.tmp 72, .tmp 76]⟩,
           ⟨some 78, none, .rd .pick [.tmp 69, .pv (.bool true), .tmp 77]⟩] L97)
        (.cond (.tmp 78)
         (.skip)
         (.exit 0)))
       (.block 1
        (.seq (.region false [⟨some 79, none, .rd .mov [.tmp 15]⟩,
            ⟨some 80, none, .rd (.bin .sub) [.tmp 79, .pv (.int .u64 1)]⟩,
            ⟨some 15, none, .rd .mov [.tmp 80]⟩] L97)
         (.seq (.region false [⟨some 81, none, .rd .mov [.tmp 16]⟩,
            ⟨some 82, none, .rd .mov [.tmp 9]⟩,
            ⟨some 83, none, .rd (.bin .add) [.tmp 81, .tmp 82]⟩,
            ⟨some 16, none, .rd .mov [.tmp 83]⟩] L97)
         (.seq (.region false [⟨some 84, none, .rd .mov [.tmp 16]⟩,
            ⟨some 85, none, .rd (.bin .geq) [.tmp 84, .pv (.int .u64 4294967296)]⟩] L97)
         (.cond (.tmp 85)
          (.exit 0)
          (.skip)))))))))
  (.seq (.region false [⟨some 86, none, .rd .mov [.tmp 11]⟩,
     ⟨some 87, none, .rd (.bin .mul) [.tmp 86, .pv (.int .u64 4294967296)]⟩,
     ⟨some 88, none, .rd .mov [.tmp 13]⟩,
     ⟨some 89, none, .rd (.bin .add) [.tmp 87, .tmp 88]⟩,
     ⟨some 90, none, .rd .mov [.tmp 15]⟩,
     ⟨some 91, none, .rd .mov [.tmp 2]⟩,
     ⟨some 92, none, .rd (.bin .mul) [.tmp 90, .tmp 91]⟩,
     ⟨some 93, none, .rd (.bin .sub) [.tmp 89, .tmp 92]⟩,
     ⟨some 17, none, .rd .mov [.tmp 93]⟩] L97)
  (.seq (.region false [⟨some 94, none, .rd .mov [.tmp 17]⟩,
     ⟨some 95, none, .rd .mov [.tmp 9]⟩,
     ⟨some 96, none, .rd (.bin .quo) [.tmp 94, .tmp 95]⟩,
     ⟨some 18, none, .rd .mov [.tmp 96]⟩] L97)
  (.seq (.region false [⟨some 97, none, .rd .mov [.tmp 17]⟩,
     ⟨some 98, none, .rd .mov [.tmp 18]⟩,
     ⟨some 99, none, .rd .mov [.tmp 9]⟩,
     ⟨some 100, none, .rd (.bin .mul) [.tmp 98, .tmp 99]⟩,
     ⟨some 101, none, .rd (.bin .sub) [.tmp 97, .tmp 100]⟩,
     ⟨some 16, none, .rd .mov [.tmp 101]⟩] L97)
  (.seq (.block 2
    (.loop
      (.seq (.seq (.region false [⟨some 102, none, .rd .mov [.tmp 18]⟩,
           ⟨some 103, none, .rd (.bin .geq) [.tmp 102, .pv (.int .u64 4294967296)]⟩,
           ⟨some 104, none, .rd .mov [.tmp 103]⟩,
           ⟨some 105, some (104, false), .rd .mov [.tmp 18]⟩,
           ⟨some 106, some (104, false), .rd .mov [.tmp 10]⟩,
           ⟨some 107, some (104, false), .rd (.bin .mul) [.tmp 105, .tmp 106]⟩,
           ⟨some 108, some (104, false), .rd .mov [.tmp 16]⟩,
           ⟨some 109, some (104, false), .rd (.bin .mul) [.pv (.int .u64 4294967296), .tmp 108]⟩,
           ⟨some 110, some (104, false), .rd .mov [.tmp 14]⟩,
           ⟨some 111, some (104, false), .rd (.bin .add) [.tmp 109, .tmp 110]⟩,
           ⟨some 112, some (104, false), .rd (.bin .gtr) [.tmp 107, .tmp 111]⟩,
           ⟨some 113, none, .rd .pick [.tmp 104, .pv (.bool true), .tmp 112]⟩] L97)
        (.cond (.tmp 113)
         (.skip)
         (.exit 2)))
       (.block 3
        (.seq (.region false [⟨some 114, none, .rd .mov [.tmp 18]⟩,
            ⟨some 115, none, .rd (.bin .sub) [.tmp 114, .pv (.int .u64 1)]⟩,
            ⟨some 18, none, .rd .mov [.tmp 115]⟩] L97)
         (.seq (.region false [⟨some 116, none, .rd .mov [.tmp 16]⟩,
            ⟨some 117, none, .rd .mov [.tmp 9]⟩,
            ⟨some 118, none, .rd (.bin .add) [.tmp 116, .tmp 117]⟩,
            ⟨some 16, none, .rd .mov [.tmp 118]⟩] L97)
         (.seq (.region false [⟨some 119, none, .rd .mov [.tmp 16]⟩,
            ⟨some 120, none, .rd (.bin .geq) [.tmp 119, .pv (.int .u64 4294967296)]⟩] L97)
         (.cond (.tmp 120)
          (.exit 2)
          (.skip)))))))))
  (.seq (.region false [⟨some 121, none, .rd .mov [.tmp 15]⟩,
     ⟨some 122, none, .rd (.bin .mul) [.tmp 121, .pv (.int .u64 4294967296)]⟩,
     ⟨some 123, none, .rd .mov [.tmp 18]⟩,
     ⟨some 124, none, .rd (.bin .add) [.tmp 122, .tmp 123]⟩,
     ⟨some 125, none, .rd .mov [.tmp 17]⟩,
     ⟨some 126, none, .rd (.bin .mul) [.tmp 125, .pv (.int .u64 4294967296)]⟩,
     ⟨some 127, none, .rd .mov [.tmp 14]⟩,
     ⟨some 128, none, .rd (.bin .add) [.tmp 126, .tmp 127]⟩,
     ⟨some 129, none, .rd .mov [.tmp 18]⟩,
     ⟨some 130, none, .rd .mov [.tmp 2]⟩,
     ⟨some 131, none, .rd (.bin .mul) [.tmp 129, .tmp 130]⟩,
     ⟨some 132, none, .rd (.bin .sub) [.tmp 128, .tmp 131]⟩,
     ⟨some 133, none, .rd .mov [.tmp 8]⟩,
     ⟨some 134, none, .rd (.bin .shr) [.tmp 132, .tmp 133]⟩,
     ⟨some 6, none, .rd .mov [.tmp 124]⟩,
     ⟨some 7, none, .rd .mov [.tmp 134]⟩] L97)
  (.ret)))))))))))))))))))),
  [.tmp 6, .tmp 7]⟩
theorem k3 : compileF Tryd.prog [] L3 Tryd.f3 = some c3 := by kernel_rfl
theorem k4 : compileF Tryd.prog [] L4 Tryd.f4 = some c4 := by kernel_rfl
theorem k13 : compileF Tryd.prog [] L13 Tryd.f13 = some c13 := by kernel_rfl
theorem k14 : compileF Tryd.prog [] L14 Tryd.f14 = some c14 := by kernel_rfl
theorem k15 : compileF Tryd.prog [] L15 Tryd.f15 = some c15 := by kernel_rfl
theorem k16 : compileF Tryd.prog [] L16 Tryd.f16 = some c16 := by kernel_rfl
theorem k29 : compileF Tryd.prog [] L29 Tryd.f29 = some c29 := by kernel_rfl
theorem k38 : compileF Tryd.prog [] L38 Tryd.f38 = some c38 := by kernel_rfl
theorem k39 : compileF Tryd.prog [] L39 Tryd.f39 = some c39 := by kernel_rfl
theorem k42 : compileF Tryd.prog [] L42 Tryd.f42 = some c42 := by kernel_rfl
theorem k44 : compileF Tryd.prog [] L44 Tryd.f44 = some c44 := by kernel_rfl
theorem k46 : compileF Tryd.prog [] L46 Tryd.f46 = some c46 := by kernel_rfl
theorem k53 : compileF Tryd.prog [] L53 Tryd.f53 = some c53 := by kernel_rfl
theorem k60 : compileF Tryd.prog [] L60 Tryd.f60 = some c60 := by kernel_rfl
theorem k61 : compileF Tryd.prog [] L61 Tryd.f61 = some c61 := by kernel_rfl
theorem k69 : compileF Tryd.prog [] L69 Tryd.f69 = some c69 := by kernel_rfl
theorem k70 : compileF Tryd.prog [] L70 Tryd.f70 = some c70 := by kernel_rfl
theorem k74 : compileF Tryd.prog [] L74 Tryd.f74 = some c74 := by kernel_rfl
theorem k84 : compileF Tryd.prog [] L84 Tryd.f84 = some c84 := by kernel_rfl
theorem k89 : compileF Tryd.prog [] L89 Tryd.f89 = some c89 := by kernel_rfl
theorem k95 : compileF Tryd.prog [] L95 Tryd.f95 = some c95 := by kernel_rfl
theorem k96 : compileF Tryd.prog [] L96 Tryd.f96 = some c96 := by kernel_rfl
theorem k97 : compileF Tryd.prog [] L97 Tryd.f97 = some c97 := by kernel_rfl
end Go.Proofs.YthekpjhffciakaaDoor
