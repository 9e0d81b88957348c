/- From the functions' promises to the rows: JournalScans. -/
import Derived.Test.YtddeffdgldjdjaaDoorCk
import Derived.Test.YtddeffdgldjdjaaDoorNz
